/- Lemmas on the model and on the program's functions, part Unb. -/
import GoSem.Core.View
import Derived.WalkKit
import Derived.Deep.Quiet
import Derived.Deep.LoopGhost
import Derived.KernelRfl
import Derived.Test.YthmendnhilghhaaGreatProg
import Derived.Laws.BytesString
import Derived.Laws.RangeString
import Derived.Lib.OthersKept
import Derived.Laws.Strings
import Derived.ProofKit
import Derived.OpenShut
import Derived.Lib.SmallJoins
import Derived.Carry
import Derived.ChangeMaps5
import Derived.Maps.AppendAt
import Derived.Laws.Externs
import Derived.Lib.Bytealg
import Derived.ChangeArms
import Derived.Laws.OwnMore
import Derived.Scope
import Derived.RangeFuncLeaves
import Derived.RangeFuncRecord
import Derived.TacticsIn
import Derived.OrdersIn
import Derived.Maps.OwnSet
import Derived.Maps.Views
import Derived.Test.YthmendnhilghhaaGreatRows
import Derived.Test.YthmendnhilghhaaGreatUna
set_option linter.unusedVariables false
set_option linter.unusedSimpArgs false
set_option maxRecDepth 20000
set_option maxHeartbeats 6400000
namespace Go.Qf
open Go Go.RowKit Go.Proofs Go.Proofs.Tryz
variable {base i b off i':Nat}{t ty e:TypeId}{af:Array Edge}{g:Option (Nat×Bool)}{x:Operand}{E E2:List (Nat×Value)}{C cs vs:List Value}{ti:TI}{fn:Func}{Q:Exit->Act->World->Prop}{l:List Oper}{S:List (Nat×GN)}{ψ:GN}{args:Array Operand}{tys:Array TypeId}{w1:World}
def Fs (S:List (Nat×GN)):List Nat->Bool
 | []=>true
 | t::r=>match BL S t with
  | some _=>false
  | none=>Fs S r
theorem UU {w:World}{k:List (Nat×Value)->Prop}:∀ {ts:List Nat}{E:List (Nat×Value)},Fs S ts=true->k E->Rh S ts E w k:=by
 intro ts;induction ts with
 | nil=>intro E _ h;exact h
 | cons t r ih =>
  intro E c h;unfold Fs at c;unfold Rh;split at c
  ·cases c
  ·rename_i d;first | exact ih c h | (rw[d];exact ih c h)
theorem K1 {w:World}{k:List (Nat×Value)->Prop}:∀ {ts:List Nat}{E:List (Nat×Value)},(∀ E2,(∀ t,BL S t=none->AR E2 t=AR E t)->k E2)->Rh S ts E w k:=by
 intro ts;induction ts with
 | nil=>intro E h;exact h E fun _ _=>rfl
 | cons t r ih =>
  intro E h;unfold Rh;split
  ·rename_i ψ d;intro v _;refine ih fun E2 c=>h E2 fun u hu=>?_;rw[c u hu,Bc];intro e;subst e;rw[d]at hu;cases hu
  ·exact ih h
def Dx (l:List Oper):Option (Nat×Bool)->List Nat
 | none=>[]
 | some (j,_)=>match (l[j]?).bind (·.dst) with
  | some d=>[d]
  | none=>[]
theorem GD {b:Bool}(c:Fs S (Dx l g)=true) (e:∀ t,BL S t=none->AR E2 t=AR E t) (h:Bg l.toArray E g=some b):Bg l.toArray E2 g=some b:=by
 unfold Bg at h ⊢;cases g with
 | none=>exact h
 | some p =>
  obtain⟨j,want⟩:=p;simp only[Dx,List.getElem?_toArray]at c h ⊢;cases hd:(l[j]?).bind (·.dst) with
  | none=>rw[hd]at h;exact h
  | some d =>
   rw[hd]at h c;simp only at h ⊢;have:BL S d=none:=by
    simp only[Fs]at c;split at c
    ·cases c
    ·assumption
   rw[e d this];exact h
section
variable {P:Program}{T:List (Nat×TI)}{n:Nat}{l:List Oper}{m:Nat}{E:List (Nat×Value)}{w:World}{fin:List (Nat×Value)->List (Nat×GN)->List (Nat×GN)->Prop}{i:Nat}{X:List (Nat×Value)}{S H:List (Nat×GN)}{o:Oper}{r:List Oper}
def Sz (T:List (Nat×TI)) (l:List Oper) (E:List (Nat×Value)) (S:List (Nat×GN)):Nat->Nat->List (Nat×Value)->List Oper->Nat×List (Nat×Value)×List Oper
 | 0,i,X,r=>(i,X,r)
 | _+1,i,X,[]=>(i,X,[])
 | k+1,i,X,o::r =>
  match o.dst,Bg l.toArray (Fz X E (BA l o)) o.guard with
  | some d,some true =>
   bif Fs S (BA l o) then
    match Ht T (Fz X E (BA l o)) o.op with
    | some v=>Sz T l E S k (i+1) ((d,v)::X) r
    | none=>(i,X,o::r)
   else (i,X,o::r)
  | some d,some false=>bif Fs S (Dx l o.guard) && !(Cg o.op) then Sz T l E S k (i+1) ((d,undef)::X) r else (i,X,o::r)
  | _,_=>(i,X,o::r)
theorem XP {op:Op}{v:Value}(h:Ht T E op=some v):Cg op=false:=by cases op <;> first | rfl | (simp[Ht]at h)
theorem FL.run (q:Aw P T):∀ (k:Nat) {i i':Nat}{X X':List (Nat×Value)}{r r':List Oper},Sz T l E S k i X r=(i',X',r')->FL P n l m E w fin i' X' S H r'->FL P n l m E w fin i X S H r:=by
 intro k;induction k with
 | zero=>intro i i' X X' r r' h c;simp only[Sz,Fh]at h;obtain⟨rfl,rfl,rfl⟩:=h;exact c
 | succ k ih =>
  intro i i' X X' r r' h c;cases r with
  | nil=>simp only[Sz,Fh]at h;obtain⟨rfl,rfl,rfl⟩:=h;exact c
  | cons o r =>
   simp only[Sz]at h;split at h
   ·rename_i d e g;cases hb:Fs S (BA l o) with
    | false=>rw[hb]at h;simp only[cond_false,Fh]at h;obtain⟨rfl,rfl,rfl⟩:=h;exact c
    | true =>
     rw[hb]at h;simp only[cond_true]at h;split at h
     ·rename_i v hv;refine .inl ⟨d,v,e,XP hv,fun w1 _=>UU hb (.inl ⟨g,(Av.pure q hv).mono ?_⟩),ih h c⟩;rintro v' w' ⟨rfl,rfl⟩;exact⟨Ac.refl _,rfl⟩
     ·simp only[Fh]at h;obtain⟨rfl,rfl,rfl⟩:=h;exact c
   ·rename_i d e g;cases hb:(Fs S (Dx l o.guard) && !(Cg o.op)) with
    | false=>rw[hb]at h;simp only[cond_false,Fh]at h;obtain⟨rfl,rfl,rfl⟩:=h;exact c
    | true =>
     rw[hb]at h;simp only[cond_true]at h;simp only[Et,Bool.not_eq_true']at hb;refine .inl ⟨d,undef,e,hb.2,fun w1 _=>K1 fun E2 j=>.inr ⟨GD hb.1 j g,Ac.refl _,rfl⟩,ih h c⟩
   ·simp only[Fh]at h;obtain⟨rfl,rfl,rfl⟩:=h;exact c
theorem FL.as (c:Aw P T) (k:Nat) {X X':List (Nat×Value)}{r r':List Oper}{d:Nat}{v:Value}(v':Value) (h:Sz T l E S k i X r=(i',(d,v)::X',r')) (hv:v=v') (next:FL P n l m E w fin i' ((d,v')::X') S H r'):FL P n l m E w fin i X S H r :=
 FL.run c k (hv ▸ h) next
theorem FL.one {d:Nat}{v:Value}{L:List Nat}(k:o.dst=some d) (j:Cg o.op=false) (g:Fs S (BA l o)=true) (q:Bg l.toArray (Fz X E (BA l o)) o.guard=some true) (c:Bl E (HN l m i)=L)
  (h:∀ w1,Rg P (Tg w L) w w1->A0 P n o (Fz X E (BA l o)) w1 v) (next:FL P n l m E w fin (i+1) ((d,v)::X) S H r):FL P n l m E w fin i X S H (o::r):=by subst c;refine .inl ⟨d,v,k,j,fun w1 e=>UU g (.inl ⟨q,(h w1 e).op.mono ?_⟩),next⟩;rintro v' w' ⟨rfl,rfl⟩;exact⟨Ac.refl _,rfl⟩
theorem FL.load (o:Aw P T) {d:Nat}{pos:String}{v:Value}{L:List Nat}
  (k:Fs S (BA l ⟨some d,.load t x,ty,pos,af,g⟩)=true) (f:Bg l.toArray (Fz X E (BA l ⟨some d,.load t x,ty,pos,af,g⟩)) g=some true) (c:Bl E (HN l m i)=L)
  (a:AG T t=some ti) (q:DJ ti.desc=false) (h:ov (Fz X E (BA l ⟨some d,.load t x,ty,pos,af,g⟩)) x=some (.pointer (some ⟨b,off,none⟩))) (u:Aj e w b C) (y:b ∉ L) (z:C[off]?=some v)
  (next:FL P n l m E w fin (i+1) ((d,v)::X) S H r):FL P n l m E w fin i X S H (⟨some d,.load t x,ty,pos,af,g⟩::r) :=
 FL.one rfl rfl k f c (fun _ j=>A0.load o a q h ((j.blk u y).cell z)) next
theorem FL.aA (o:Aw P T) {d:Nat}{pos:String}{L:List Nat}
  (k:Fs S (BA l ⟨some d,.load t x,ty,pos,af,g⟩)=true) (f:Bg l.toArray (Fz X E (BA l ⟨some d,.load t x,ty,pos,af,g⟩)) g=some true) (c:Bl E (HN l m i)=L)
  (a:AG T t=some ti) (q:DJ ti.desc=true) (h:ov (Fz X E (BA l ⟨some d,.load t x,ty,pos,af,g⟩)) x=some (.pointer (some ⟨b,off,none⟩))) (u:Aj e w b C) (v:b ∉ L) (z:off+ti.size<=C.length) (y:(C.drop off).take ti.size=cs)
  (next:FL P n l m E w fin (i+1) ((d,.agg cs.toArray)::X) S H r):FL P n l m E w fin i X S H (⟨some d,.load t x,ty,pos,af,g⟩::r) :=
 FL.one rfl rfl k f c (fun _ j=>A0.aA o a q h (j.blk u v) z y) next
def Gj (P:Program) (f:FuncId) (args:Array Operand) (ψ:GN) (w1:World) (E2:List (Nat×Value)):Prop:=∃ vs,Z3 E2 args.toList=some vs/\Calls P f vs.toArray w1 (AJ fun v w'=>Ac w1 w'/\ψ v w')
theorem Gj.mk {f:FuncId}(h:Z3 E2 args.toList=some vs) (c:Calls P f vs.toArray w1 (AJ fun v w'=>Ac w1 w'/\ψ v w')):Gj P f args ψ w1 E2:=⟨vs,h,c⟩
theorem cM {f:FuncId}(c:Calls P f vs.toArray w1 (AJ fun v w'=>Ac w1 w'/\ψ v w')) (h:Z3 E2 args.toList=some vs:=by exact rfl):Gj P f args ψ w1 E2:=Gj.mk h c
theorem L6 {w:World}{k k':List (Nat×Value)->Prop}(d:∀ E,k E->k' E):∀ {ts:List Nat}{E:List (Nat×Value)},Rh S ts E w k->Rh S ts E w k':=by
 intro ts;induction ts with
 | nil=>intro E h;exact d E h
 | cons t r ih =>
  intro E h;unfold Rh at h ⊢;split
  ·rename_i ψ c;rw[c]at h;exact fun v hv=>ih (h v hv)
  ·rename_i c;rw[c]at h;exact ih h
theorem Oc {w:World}{k k':List (Nat×Value)->Prop}:∀ {ts:List Nat}{E:List (Nat×Value)},Rh S ts E w k->Rh S ts E w k'->Rh S ts E w (fun E2=>k E2/\k' E2):=by
 intro ts;induction ts with
 | nil=>intro E h c;exact⟨h,c⟩
 | cons t r ih =>
  intro E h c;unfold Rh at h c ⊢;split
  ·rename_i ψ d;rw[d]at h c;exact fun v hv=>ih (h v hv) (c v hv)
  ·rename_i d;rw[d]at h c;exact ih h c
theorem FL.call {f:FuncId}(j:Oy P f fn) {d:Nat}{pos:String}{L:List Nat}
  (u:Fs S (Dx l g)=true) (t:Bg l.toArray (Fz X E (BA l ⟨some d,.call ⟨.value (.func f),args,tys⟩,ty,pos,af,g⟩)) g=some true) (k:Bl E (HN l m i)=L)
  (h:∀ w1,Rg P (Tg w L) w w1->Rh S (BA l ⟨some d,.call ⟨.value (.func f),args,tys⟩,ty,pos,af,g⟩) (Fz X E (BA l ⟨some d,.call ⟨.value (.func f),args,tys⟩,ty,pos,af,g⟩)) w1 (Gj P f args ψ w1))
  (y:Am P ψ) (next:FL P n l m E w fin (i+1) X ((d,ψ)::S) H r):FL P n l m E w fin i X S H (⟨some d,.call ⟨.value (.func f),args,tys⟩,ty,pos,af,g⟩::r):=by subst k;refine .inr (.inl ⟨d,ψ,rfl,y,fun w1 o=>L6 ?_ (Oc (h w1 o) (K1 fun E2 c=>GD u c t)),next⟩);rintro E2 ⟨⟨vs,z,q⟩,a⟩;refine .inl ⟨a,(Av.call j z q).mono ?_⟩;intro v w2 hv;exact⟨hv.1,hv.2,fun e=>by cases e⟩
theorem FL.callX {f:FuncId}(j:Oy P f fn) {d:Nat}{pos:String}{c:Value}{L:List Nat}
  (u:Fs S (Dx l g)=true) (y:Bg l.toArray (Fz X E (BA l ⟨some d,.call ⟨.value (.func f),args,tys⟩,ty,pos,af,g⟩)) g=some true) (k:Bl E (HN l m i)=L)
  (h:∀ w1,Rg P (Tg w L) w w1->Rh S (BA l ⟨some d,.call ⟨.value (.func f),args,tys⟩,ty,pos,af,g⟩) (Fz X E (BA l ⟨some d,.call ⟨.value (.func f),args,tys⟩,ty,pos,af,g⟩)) w1 (Gj P f args (Is c) w1))
  (next:FL P n l m E w fin (i+1) ((d,c)::X) S H r):FL P n l m E w fin i X S H (⟨some d,.call ⟨.value (.func f),args,tys⟩,ty,pos,af,g⟩::r):=by subst k;refine .inl ⟨d,c,rfl,rfl,fun w1 o=>L6 ?_ (Oc (h w1 o) (K1 fun E2 e=>GD u e y)),next⟩;rintro E2 ⟨⟨vs,v,q⟩,z⟩;exact .inl ⟨z,Av.call j v q⟩
theorem FL.au {f:FuncId}(c:Oy P f fn) {d:Nat}{pos:String}
  (k:Fs S (Dx l g)=true) (q:Bg l.toArray (Fz X E (BA l ⟨some d,.call ⟨.value (.func f),args,tys⟩,ty,pos,af,g⟩)) g=some true) (e:Bl E (HN l m i)=[])
  (h:∀ w1,Ac w w1->Rh S (BA l ⟨some d,.call ⟨.value (.func f),args,tys⟩,ty,pos,af,g⟩) (Fz X E (BA l ⟨some d,.call ⟨.value (.func f),args,tys⟩,ty,pos,af,g⟩)) w1 (Gj P f args ψ w1))
  (o:Am P ψ) (next:FL P n l m E w fin (i+1) X ((d,ψ)::S) H r):FL P n l m E w fin i X S H (⟨some d,.call ⟨.value (.func f),args,tys⟩,ty,pos,af,g⟩::r) :=
 FL.call c k q e (fun w1 j=>h w1 j.aq) o next
theorem fC {f:FuncId}{d:Nat}{pos:String}(c:Oy P f fn) (h:∀ w1,Ac w w1->Rh S (BA l ⟨some d,.call ⟨.value (.func f),args,tys⟩,ty,pos,af,g⟩) (Fz X E (BA l ⟨some d,.call ⟨.value (.func f),args,tys⟩,ty,pos,af,g⟩)) w1 (Gj P f args ψ w1)) (k:Am P ψ) (next:FL P n l m E w fin (i+1) X ((d,ψ)::S) H r) (j:Fs S (Dx l g)=true:=by exact rfl) (o:Bg l.toArray (Fz X E (BA l ⟨some d,.call ⟨.value (.func f),args,tys⟩,ty,pos,af,g⟩)) g=some true:=by exact rfl) (e:Bl E (HN l m i)=[]:=by exact rfl):FL P n l m E w fin i X S H (⟨some d,.call ⟨.value (.func f),args,tys⟩,ty,pos,af,g⟩::r):=FL.au c j o e h k next
theorem FL.aY {f:FuncId}(e:Oy P f fn) {d:Nat}{pos:String}{c:Value}
  (o:Fs S (Dx l g)=true) (q:Bg l.toArray (Fz X E (BA l ⟨some d,.call ⟨.value (.func f),args,tys⟩,ty,pos,af,g⟩)) g=some true) (j:Bl E (HN l m i)=[])
  (h:∀ w1,Ac w w1->Rh S (BA l ⟨some d,.call ⟨.value (.func f),args,tys⟩,ty,pos,af,g⟩) (Fz X E (BA l ⟨some d,.call ⟨.value (.func f),args,tys⟩,ty,pos,af,g⟩)) w1 (Gj P f args (Is c) w1))
  (next:FL P n l m E w fin (i+1) ((d,c)::X) S H r):FL P n l m E w fin i X S H (⟨some d,.call ⟨.value (.func f),args,tys⟩,ty,pos,af,g⟩::r) :=
 FL.callX e o q j (fun w1 k=>h w1 k.aq) next
theorem fX {f:FuncId}{d:Nat}{pos:String}{c:Value}(e:Oy P f fn) (h:∀ w1,Ac w w1->Rh S (BA l ⟨some d,.call ⟨.value (.func f),args,tys⟩,ty,pos,af,g⟩) (Fz X E (BA l ⟨some d,.call ⟨.value (.func f),args,tys⟩,ty,pos,af,g⟩)) w1 (Gj P f args (Is c) w1)) (next:FL P n l m E w fin (i+1) ((d,c)::X) S H r) (k:Fs S (Dx l g)=true:=by exact rfl) (o:Bg l.toArray (Fz X E (BA l ⟨some d,.call ⟨.value (.func f),args,tys⟩,ty,pos,af,g⟩)) g=some true:=by exact rfl) (j:Bl E (HN l m i)=[]:=by exact rfl):FL P n l m E w fin i X S H (⟨some d,.call ⟨.value (.func f),args,tys⟩,ty,pos,af,g⟩::r):=FL.aY e k o j h next
theorem FL.fact {d:Nat}{L:List Nat}(u:o.dst=some d) (q:Cg o.op=false) (y:Fs S (Dx l o.guard)=true) (t:Bg l.toArray (Fz X E (BA l o)) o.guard=some true) (j:Bl E (HN l m i)=L)
  (h:∀ w1,Rg P (Tg w L) w w1->Rh S (BA l o) (Fz X E (BA l o)) w1 (fun E2=>Av P n o E2 w1 (fun v w2=>Ac w1 w2/\ψ v w2)))
  (z:Am P ψ) (next:FL P n l m E w fin (i+1) X ((d,ψ)::S) H r):FL P n l m E w fin i X S H (o::r):=by subst j;refine .inr (.inl ⟨d,ψ,u,z,fun w1 k=>L6 ?_ (Oc (h w1 k) (K1 fun E2 g=>GD y g t)),next⟩);rintro E2 ⟨c,a⟩;refine .inl ⟨a,c.mono ?_⟩;intro v w2 hv;exact⟨hv.1,hv.2,fun e=>by rw[q]at e;cases e⟩
theorem FL.exact {d:Nat}{c:Value}{L:List Nat}(u:o.dst=some d) (q:Cg o.op=false) (y:Fs S (Dx l o.guard)=true) (z:Bg l.toArray (Fz X E (BA l o)) o.guard=some true) (j:Bl E (HN l m i)=L)
  (h:∀ w1,Rg P (Tg w L) w w1->Rh S (BA l o) (Fz X E (BA l o)) w1 (fun E2=>Av P n o E2 w1 (fun v w2=>Ac w1 w2/\v=c)))
  (next:FL P n l m E w fin (i+1) ((d,c)::X) S H r):FL P n l m E w fin i X S H (o::r):=by subst j;refine .inl ⟨d,c,u,q,fun w1 k=>L6 ?_ (Oc (h w1 k) (K1 fun E2 g=>GD y g z)),next⟩;rintro E2 ⟨e,t⟩;exact .inl ⟨t,e⟩
theorem A0.ext {v:Value}(h:A0 P n o E2 w1 v) (c:ψ v w1):Av P n o E2 w1 (fun v' w2=>Ac w1 w2/\ψ v' w2):=by refine h.op.mono ?_;rintro v' w' ⟨rfl,rfl⟩;exact⟨Ac.refl _,c⟩
def A0U (base:Nat) (t:TypeId) (len:Nat):GN:=fun v w=>∃ b C,v=.pointer (some ⟨b,0,none⟩)/\base<=b/\Aj t w b C/\C.length=len
theorem Am.newVar (base:Nat) (t:TypeId) (len:Nat):Am P (A0U base t len):=by rintro v w w' d ⟨b,C,rfl,c,e,j⟩;obtain⟨C',g,k⟩:=d.dz e;exact⟨b,C',rfl,c,g,k.trans j⟩
theorem FL.alloc (j:Aw P T) {d:Nat}{pos:String}{len:Nat}(e:Fs S (BA l ⟨some d,.alloc t,ty,pos,af,g⟩)=true) (u:Bg l.toArray (Fz X E (BA l ⟨some d,.alloc t,ty,pos,af,g⟩)) g=some true)
  (q:AG T t=some ti) (o:ti.zero.cells.toList.length=len) (next:FL P n l m E w fin (i+1) X ((d,A0U w.heap.size t len)::S) H r):FL P n l m E w fin i X S H (⟨some d,.alloc t,ty,pos,af,g⟩::r):=by refine .inr (.inl ⟨d,_,rfl,Am.newVar _ _ _,fun w1 c=>UU e (.inl ⟨u,(Av.alloc j q).mono ?_⟩),next⟩);rintro v w2 ⟨rfl,k,y,z⟩;exact⟨y,⟨_,_,rfl,c.size,k,o⟩,fun _=>⟨_,rfl,Ai _,by omega⟩⟩
theorem WP:∀ (vs A C:List Value),C.length=vs.length->Fl (A++C) A.length vs=A++vs:=by
 intro vs;induction vs with
 | nil=>intro A C h;simp only[Fj]at h;rw[FA h];rfl
 | cons v r ih =>
  intro A C h;cases C with
  | nil=>simp at h
  | cons c C =>
   have:=ih (A++[v]) C (by simpa using h);simp only[Fl];simp only[Bf,BR,Fj,EO,List.singleton_append]at this;simpa using this
theorem Av.storeAll (d:Aw P T) {y:Operand}{pos:String}{v:Value}
  (j:AG T t=some ti) (l:DJ ti.desc=true) (o:ov E2 x=some (.pointer (some ⟨b,0,none⟩))) (q:ov E2 y=some v) (m:v.cells.toList.length=ti.size) (r:C.length=ti.size) (k:∀ u ∈ v.cells.toList,u.oneCell'=true) (e:Aj t w1 b C) :
  Av P n ⟨none,.store t x y,ty,pos,af,g⟩ E2 w1 (fun _ w2=>Aj t w2 b v.cells.toList/\CE b w1 w2/\Oa P b w1 w2):=by refine (Av.store d j o q rfl m e oo k).mono ?_;rintro _ w2 ⟨c,hu⟩;have:=WP v.cells.toList [] C oo;simp only[HX,Fj]at this;rw[this]at c;refine⟨c,hu,C,_,t,?_,by omega,e,c⟩;have hu:=(d t ti j).1;unfold isV;rw[hu];cases hd:ti.desc <;> simp[DJ,hd]at l ⊢
theorem FL.store (z:Aw P T) {p s:Nat}{pos:String}{L:List Nat}
  (D:Fs S (Dx l g)=true) (I:Bg l.toArray (Fz X E (BA l ⟨none,.store t (.tmp p) (.tmp s),ty,pos,af,g⟩)) g=some true) (q:Bl E (HN l m i)=L)
  (G:AG T t=some ti) (a:DJ ti.desc=true) (f:Aj t w b C) (M:C.length=ti.size) (d:Am P ψ)
  (h:∀ w1,Rg P (Tg w L) w w1->Rh S (BA l ⟨none,.store t (.tmp p) (.tmp s),ty,pos,af,g⟩) (Fz X E (BA l ⟨none,.store t (.tmp p) (.tmp s),ty,pos,af,g⟩)) w1 (fun E2=>AR E2 p=some (.pointer (some ⟨b,0,none⟩))/\∃ v,AR E2 s=some v/\v.cells.toList.length=ti.size/\(∀ u ∈ v.cells.toList,u.oneCell'=true)/\ψ v w1))
  (next:FL P n l m E w fin (i+1) X S ((p,A4m t ψ)::H) r):FL P n l m E w fin i X S H (⟨none,.store t (.tmp p) (.tmp s),ty,pos,af,g⟩::r):=by subst q;refine .inr (.inr ⟨p,_,rfl,UQ.holds d,fun w1 c=>L6 ?_ (Oc (h w1 c) (K1 fun E2 o=>GD D o I)),next⟩);rintro E2 ⟨⟨e,v,hv,F,k,K⟩,J⟩;obtain⟨C',A,N⟩:=c.dz f;refine .inl ⟨J,(Av.storeAll (x:=.tmp p) (y:=.tmp s) z G a e hv F oo k A).mono ?_⟩;rintro _ w2 ⟨B,hu,j⟩;exact⟨b,e,hu,j,b,v,rfl,B,d v w1 w2 (Rg.bW hu j trivial) K⟩
theorem FL.bP (z:Aw P T) {p s:Nat}{pos:String}{L:List Nat}
  (B:Fs S (Dx l g)=true) (I:Bg l.toArray (Fz X E (BA l ⟨none,.store t (.tmp p) (.tmp s),ty,pos,af,g⟩)) g=some true) (o:Bl E (HN l m i)=L)
  (G:AG T t=some ti) (a:DJ ti.desc=true) (c:Am P ψ)
  (h:∀ w1,Rg P (Tg w L) w w1->Rh S (BA l ⟨none,.store t (.tmp p) (.tmp s),ty,pos,af,g⟩) (Fz X E (BA l ⟨none,.store t (.tmp p) (.tmp s),ty,pos,af,g⟩)) w1 (fun E2=>(∃ u,AR E2 p=some u/\A0U base t ti.size u w1)/\∃ v,AR E2 s=some v/\v.cells.toList.length=ti.size/\(∀ u ∈ v.cells.toList,u.oneCell'=true)/\ψ v w1))
  (next:FL P n l m E w fin (i+1) X S ((p,A4m t ψ)::H) r):FL P n l m E w fin i X S H (⟨none,.store t (.tmp p) (.tmp s),ty,pos,af,g⟩::r):=by subst o;refine .inr (.inr ⟨p,_,rfl,UQ.holds c,fun w1 q=>L6 ?_ (Oc (h w1 q) (K1 fun E2 k=>GD B k I)),next⟩);rintro E2 ⟨⟨⟨u,d,b,C,rfl,M,f,D⟩,v,hv,F,j,K⟩,J⟩;refine .inl ⟨J,(Av.storeAll (x:=.tmp p) (y:=.tmp s) z G a d hv F D j f).mono ?_⟩;rintro _ w2 ⟨A,hu,e⟩;exact⟨b,d,hu,e,b,v,rfl,A,c v w1 w2 (Rg.bW hu e trivial) K⟩
theorem FL.end {L:List Nat}(c:Bl E (Cb (l.take m))=L) (h:∀ w1,Rg P (Tg w L) w w1->Za S (X++E) w1 (fun E2=>Zp E2 w1 H->A0K (Jc (l.take m)) E2->Af P n E2 w1 l.toArray (l.drop m) Q)):FL P n l m E w (Ob P n l m E w Q) i X S H []:=by subst c;exact h
theorem FL.aG (c:Bl E (Cb (l.take m))=[]) (h:∀ w1,Ac w w1->Za S (X++E) w1 (fun E2=>Zp E2 w1 H->A0K (Jc (l.take m)) E2->Af P n E2 w1 l.toArray (l.drop m) Q)):FL P n l m E w (Ob P n l m E w Q) i X S H [] :=
 FL.end c fun w1 d=>h w1 d.aq
theorem FL.q {X':List (Nat×Value)}{r':List Oper}(next:FL prog n l m E w fin i' X' S H r') (h:Sz TB l E S 99 i X r=(i',X',r'):=by exact rfl):FL prog n l m E w fin i X S H r:=FL.run A8 99 h next
theorem FL.on {d:Nat}{v:Value}(h:∀ w1,Rg P (Tg w []) w w1->A0 P n o (Fz X E (BA l o)) w1 v) (next:FL P n l m E w fin (i+1) ((d,v)::X) S H r) (j:o.dst=some d:=by exact rfl) (g:Cg o.op=false:=by exact rfl) (e:Fs S (BA l o)=true:=by exact rfl) (k:Bg l.toArray (Fz X E (BA l o)) o.guard=some true:=by exact rfl) (c:Bl E (HN l m i)=[]:=by exact rfl):FL P n l m E w fin i X S H (o::r):=FL.one j g e k c h next
end
variable {n m s1 s2 base':Nat}{w' w0:World}{t2:TypeId}{d:Option Tmp}{xs:List Nat}{z:Value}{P:Program}{ops:Array Oper}{T:List (Nat×TI)}{rest:List Oper}{neg:Bool}
def KP (w:World) (v:Value) (neg:Bool) (xs:List Nat):Prop:=∃ p cap,v=FM neg (.slice p xs.length cap)/\Sl w (.slice p xs.length cap) xs
def sg (neg:Bool) (m:Nat):Int:=if neg then -(m:Int) else m
def Ao (base:Nat) (w:World) (v:Value) (a:Int):Prop:=∃ p cap,v=FM (decide (a<0)) (.slice p (Ae a.natAbs).length cap)/\Ei base w (.slice p (Ae a.natAbs).length cap) (Ae a.natAbs)
abbrev Ub (w:World) (v:Value) (a:Int):Prop:=Ao 0 w v a
theorem KP.ext {w:World}{v:Value}(h:KP w v neg xs) (d:Ac w w'):KP w' v neg xs:=by obtain⟨p,cap,hv,c⟩:=h;exact⟨p,cap,hv,c.ext d⟩
theorem Ao.ext {w:World}{v:Value}{a:Int}(h:Ao base w v a) (d:Ac w w'):Ao base w' v a:=by obtain⟨p,cap,hv,c⟩:=h;exact⟨p,cap,hv,c.ext d⟩
theorem Ub.ext {w:World}{v:Value}{a:Int}(h:Ub w v a) (c:Ac w w'):Ub w' v a:=Ao.ext h c
theorem Ao.mono {w:World}{v:Value}{a:Int}(h:Ao base w v a) (c:base'<=base):Ao base' w v a:=by obtain⟨p,cap,hv,d⟩:=h;exact⟨p,cap,hv,d.mono c⟩
theorem Ao.can {w:World}{v:Value}{a:Int}(h:Ao base w v a):Ub w v a:=h.mono BI
theorem Ub.den {w:World}{v:Value}{a:Int}(h:Ub w v a):KP w v (decide (a<0)) (Ae a.natAbs):=by obtain⟨p,cap,hv,c⟩:=h;exact⟨p,cap,hv,c.sl⟩
theorem KP.lim {w:World}{v:Value}(h:KP w v neg xs):EB xs:=by obtain⟨_,_,_,c⟩:=h;exact c.2
theorem Gf (neg:Bool) (m:Nat):(sg neg m).natAbs=m:=by cases neg <;> simp[sg]
theorem A4o (a:Int):sg (decide (a<0)) a.natAbs=a:=by
 unfold sg;by_cases h:a<0
 ·simp[h];omega
 ·simp[h];omega
def A0V (neg:Bool) (m:Nat) (sl:Value):Value:=if Ae m=[] then FM false (.slice none 0 0) else FM neg sl
theorem A0W {w:World}{sl:Value}(neg:Bool) (h:Ei base w sl (Ae m)):Ao base w (A0V neg m sl) (sg neg m):=by
 unfold A0V Ao;rw[Gf];by_cases c:m=0
 ·subst c;have e:sg neg 0=0:=by cases neg <;> rfl
  rw[e,ER,if_pos rfl];exact⟨none,0,rfl,Ei.nil _ w⟩
 ·rw[if_neg (fun e=>c (CQ.1 e))];obtain⟨p,cap,rfl,_⟩:=h.sl.form;refine⟨p,cap,?_,h⟩;have:decide (sg neg m<0)=neg:=by
   cases neg
   ·exact decide_eq_false (by simp[sg])
   ·exact decide_eq_true (by simp[sg];omega)
  rw[this]
theorem GP (w:World) (neg:Bool) (sl:Value) (m:Nat) (h:Ei base w sl (Ae m)) (d:(Ae m).length<=1000000000) :
  Calls prog 70 #[.bool neg,sl] w (AJ fun r w'=>Ac w w'/\Ao base w' r (sg neg m)):=by refine (A0O w neg sl (Ae m) h.sl d).mono ?_;rintro e w' ⟨r,rfl,c,g⟩;refine⟨r,rfl,c,?_⟩;have:=A0W neg (h.ext c);unfold A0V at this;rw[g];exact this
theorem GQ (w:World) (neg:Bool) (sl:Value) (m:Nat) (h:Ei base w sl (Ae m)) (c:(Ae m).length<=1000000000) :
  Calls prog 70 #[.bool neg,sl] w (AJ fun r w'=>Ac w w'/\Ub w' r (sg neg m)):=by refine (GP w neg sl m h c).mono ?_;rintro e w' ⟨r,rfl,g,d⟩;exact⟨r,rfl,g,d.can⟩
theorem Ao.cells {w:World}{v:Value}{a:Int}(h:Ao base w v a):∃ p cap,v=.agg #[.bool (decide (a<0)),.slice p (Ae a.natAbs).length cap]/\Ei base w (.slice p (Ae a.natAbs).length cap) (Ae a.natAbs):=h
theorem Af.bQ {w:World}{t s:Nat}{pos:String}{v:Value}{a:Int}
  (k:AR E t=some (.pointer (some ⟨b,0,none⟩))) (j:AR E s=some v) (d:Aj 37 w b C) (c:C.length=2) (hv:Ao base w v a) (l:Ac w0 w) (g:w0.heap.size<=b)
  (next:∀ w' cs,v=.agg cs.toArray->cs.length=2->Aj 37 w' b cs->CE b w w'->Ac w0 w'->Af prog n E w' ops rest Q) :
  Af prog n E w ops (⟨none,.store 37 (.tmp t) (.tmp s),ty,pos,af,none⟩::rest) Q:=by
 obtain⟨p,cap,rfl,_⟩:=hv.cells;refine Af.step0 rfl rfl (Av.store A8 (vs:=[.bool (decide (a<0)),.slice p (Ae a.natAbs).length cap]) rfl k j rfl rfl d (by simp[c]) (by simp[Value.oneCell'])) ?_;rintro _ w' ⟨e,hu⟩;match C,c with
 | [c0,c1],_=>exact next w' _ rfl rfl e hu (l.aj hu g)
theorem Gh.upd {w:World}{v:Value}(h:Gh base e w v cs) (hu:CE b w w') (c:∀ g cap,v=.slice (some ⟨g,0,none⟩) cs.length cap->g≠b):Gh base e w' v cs:=by
 refine⟨h.1,?_⟩;rcases h.2 with h0 | ⟨g,cap,cur,hv,hb,hg,r⟩
 ·exact .inl h0
 ·exact .inr ⟨g,cap,cur,hv,hb,(hu.block g (Gt.1 hg).1 (c g cap hv)).trans hg,r⟩
theorem Gh.aI {w:World}{v:Value}(h:Gh base e w v cs) (hu:CE b w w') (c:Aj t w b C) (j:e≠t):Gh base e w' v cs:=by
 refine h.upd hu ?_;intro g cap hv d;subst d;rcases h.2 with ⟨h0,_⟩ | ⟨g',cap',cur,hv',_,hg,_⟩
 ·rw[h0]at hv;cases hv
 ·rw[hv]at hv';simp only[Ci,AP,FF]at hv';obtain⟨⟨rfl,_⟩,_⟩:=hv';unfold Aj at c;rw[c]at hg;simp only[AP,Obj.cells.injEq]at hg;exact j hg.2.1.symm
theorem Ao.upd {w:World}{v:Value}{a:Int}(h:Ao base w v a) (hu:CE b w w') (e:∃ C,Aj 37 w b C):Ao base w' v a:=by obtain⟨p,cap,hv,c⟩:=h;obtain⟨C,d⟩:=e;exact⟨p,cap,hv,Gh.aI c.1 hu d de,c.2⟩
theorem A9t:isV prog 109=false:=by unfold isV;rw[underlying109]
theorem Ei.rg {T:Nat->Prop}{w:World}{v:Value}(h:Ei base w v xs) (c:Rg prog T w w'):Ei base w' v xs:=⟨c.own A9t h.1,h.2⟩
theorem Ao.rg {T:Nat->Prop}{w:World}{v:Value}{a:Int}(h:Ao base w v a) (c:Rg prog T w w'):Ao base w' v a:=by obtain⟨p,cap,hv,d⟩:=h;exact⟨p,cap,hv,d.rg c⟩
theorem Am.aF (base:Nat) (a:Int):Am prog (fun v w=>Ao base w v a):=fun _ _ _ c h=>h.rg c
theorem Am.slO (base:Nat) (xs:List Nat):Am prog (fun v w=>Ei base w v xs):=fun _ _ _ c h=>h.rg c
theorem Ao.two {w:World}{v:Value}{a:Int}(h:Ao base w v a):v.cells.toList.length=2/\∀ u ∈ v.cells.toList,u.oneCell'=true:=by obtain⟨p,cap,rfl,_⟩:=h;exact⟨rfl,by simp[FM,Value.cells,Value.oneCell']⟩
theorem SA (w:World) (a:Int) (f:-9223372036854775808<=a) (h:a<=9223372036854775807) (y:base<=w.heap.size) :
  Calls prog 39 #[.int .i64 a] w (AJ fun r w'=>Ac w w'/\Ao base w' r a):=by
 refine cS func39 ntmps39 ?_;refine Nv ?_;refine .s (oA) ?_;rintro _ w1 ⟨rfl,e,g,_⟩;refine A7 ?_;by_cases i:a<0
 ·refine St.aD rfl (by simp;omega) ?_;refine A7 ?_;obtain⟨m,t⟩:∃ m:Nat,a=-(m:Int):=⟨a.natAbs,by omega⟩;subst t;refine .a 1 (.int .u64 (m:Int)) rfl (by congr 1;simp only[Cz];omega) ?_;refine .s (oK CM (Ey w1 m oo)) ?_;rintro sl w2 ⟨c,o⟩;have z:=Db (m:=m) oo;refine .s (oK BO (GP w2 true sl m (o.mono (Ar y g.size)) oo)) ?_;rintro v w3 ⟨d,hv⟩;refine Af.bQ rfl rfl ((e.ext c).ext d) rfl hv ((g.trans c).trans d) AO ?_;intro b cs k l j q u;refine A7 ?_;refine Ad.aC A8 [v] rfl ⟨⟨_,_,_,_,rfl,j,rfl,rfl,l,k⟩,trivial⟩ ⟨u,?_⟩;exact Ao.upd hv q ⟨_,(e.ext c).ext d⟩
 ·refine St.ay rfl (by simp;omega) ?_;refine A7 ?_;obtain⟨m,rfl⟩:∃ m:Nat,a=(m:Int):=⟨a.natAbs,by omega⟩;refine .a 1 (.int .u64 (m:Int)) rfl (by rw[BG oo oo]) ?_;refine .s (oK CM (Ey w1 m oo)) ?_;rintro sl w2 ⟨c,o⟩;have z:=Db (m:=m) oo;refine .s (oK BO (GP w2 false sl m (o.mono (Ar y g.size)) oo)) ?_;rintro v w3 ⟨d,hv⟩;refine Af.bQ rfl rfl ((e.ext c).ext d) rfl hv ((g.trans c).trans d) AO ?_;intro b cs k l j q u;refine A7 ?_;refine Ad.aC A8 [v] rfl ⟨⟨_,_,_,_,rfl,j,rfl,rfl,l,k⟩,trivial⟩ ⟨u,?_⟩;exact Ao.upd hv q ⟨_,(e.ext c).ext d⟩
theorem DY (w:World) (a:Int) (c:-9223372036854775808<=a) (d:a<=9223372036854775807) :
  Calls prog 39 #[.int .i64 a] w (AJ fun r w'=>Ac w w'/\Ub w' r a):=SA w a c d BI
theorem A0.cW {w:World}(e:Aw P T) {y:Operand}{pos:String}{a b:Bool}(k:AG T t=some ⟨.bool,s1,s2,z⟩) (l:ov E x=some (.bool a)) (m:ov E y=some (.bool b)) :
  A0 P n ⟨d,.binOp .eql t x y t2,ty,pos,af,g⟩ E w (.bool (a == b)):=by
 intro f c;have e1:=c.eval l;have e2:=c.eval m;generalize f.eval=ρ at e1 e2;have j:(Op.equal t (.bool a) (.bool b)).run P w=.ok (a == b) w:=by show (Op.equalIn (9999+1) t _ _).run P w=_;unfold Op.equalIn;simp only[Bq,Ag e k,Bp,AX]
 simp only[execOp,e1,e2,eqGuard,binOp,Bq,AX];simp only[PX,Hg,if_false,AX,Bp,j]
theorem A0.cX {w:World}(e:Aw P T) {y:Operand}{pos:String}{a b:Bool}(k:AG T t=some ⟨.bool,s1,s2,z⟩) (l:ov E x=some (.bool a)) (m:ov E y=some (.bool b)) :
  A0 P n ⟨d,.binOp .neq t x y t2,ty,pos,af,g⟩ E w (.bool (!(a == b))):=by
 intro f c;have e1:=c.eval l;have e2:=c.eval m;generalize f.eval=ρ at e1 e2;have j:(Op.equal t (.bool a) (.bool b)).run P w=.ok (a == b) w:=by show (Op.equalIn (9999+1) t _ _).run P w=_;unfold Op.equalIn;simp only[Bq,Ag e k,Bp,AX]
 simp only[execOp,e1,e2,eqGuard,binOp,Bq,AX];simp only[PX,Hg,if_false,AX,Bp,j]
def Je (a:Int):Value:=if -9223372036854775808<=a/\a<=9223372036854775807 then .tuple #[.int .i64 a,.bool true] else .tuple #[.int .i64 0,.bool false]
theorem A0X (w:World) (v:Value) (neg:Bool) (xs:List Nat) (h:KP w v neg xs) (y:xs.length<=100000000) :
  Calls prog 213 #[v] w (AJ fun r w'=>Ac w w'/\r=Je (sg neg (Ah xs))):=by
 obtain⟨p,cap,rfl,k⟩:=h;refine cS func213 ntmps213 ?_;refine Nv ?_;refine .s (oB) ?_;rintro _ w1 ⟨rfl,d,c,_⟩;have l:=k.ext c;refine A7 ?_;refine .p (FX d) ?_;refine .s (oK AB (BN w1 _ _ l oo)) ?_;rintro _ w2 ⟨rfl,rfl,e⟩;obtain⟨p2,o,g,_⟩:=e.form;rw[g]at e ⊢;refine A7 ?_;by_cases q:2<(Ae (Ah xs)).length
 ·refine St.aD rfl (by simp;omega) ?_;refine A7 ?_;refine Ad.bI rfl rfl rfl ⟨c,?_⟩;have u:18446744073709551616<=Ah xs:=by
   rcases Dl (Ah xs) 18446744073709551616 with h | h
   ·have:=Db h;omega
   ·exact h
  unfold Je;rw[if_neg];cases neg <;> simp[sg] <;> omega
 refine St.ay rfl (by simp;omega) ?_;have z:Ah xs<18446744073709551616:=by have:=Ew e.2 oo;rwa [Al]at this
 refine A7 ?_;refine .s (oK DC (I7 _ _ _ e oo)) ?_;rintro _ w3 ⟨rfl,rfl⟩;rw[Al];generalize Ah xs=m at *
 refine A7 ?_;refine .p (FX d) ?_;unfold Je;cases neg with
 | true =>
  by_cases j:m<=9223372036854775808
  ·refine .a 3 (.bool true) rfl (Aa oo) ?_;refine A7 ?_;refine .ct ?_;refine Ad.bI rfl rfl rfl ⟨c,?_⟩;rw[if_pos (by simp[sg];omega)];congr 4;simp only[IK,Cz,sg,if_true];omega
  ·refine .a 3 (.bool false) rfl (A9 oo) ?_;refine A7 ?_;refine .cf ?_;refine .p (FX d) ?_;refine A7 ?_;refine .cf ?_;refine Ad.bI rfl rfl rfl ⟨c,?_⟩;rw[if_neg (by simp[sg];omega)]
 | false =>
  refine A7 ?_;refine .cf ?_;refine .p (FX d) ?_;by_cases j:m<9223372036854775808
  ·refine .a 4 (.bool true) rfl (Aa oo) ?_;refine A7 ?_;refine .ct ?_;refine Ad.bI rfl rfl rfl ⟨c,?_⟩;rw[if_pos (by simp[sg];omega)];congr 4;simp only[IK,sg];simp;omega
  ·refine .a 4 (.bool false) rfl (A9 oo) ?_;refine A7 ?_;refine .cf ?_;refine Ad.bI rfl rfl rfl ⟨c,?_⟩;rw[if_neg (by simp[sg];omega)]
variable {k j id:Nat}{Φ:Value->World->Prop}{o:Oper}{α:Type}
def WA (P:Program) (n:Nat) (l:List Oper) (Q:Exit->Act->World->Prop) (fuel:Nat) (listed:Array Bool) (E:List (Nat×Value)) (w:World):Prop:=∀ a,DM n E a->wpAny P .any l.toArray Q fuel listed a w
section
variable {P:Program}{T:List (Nat×TI)}{n:Nat}{l:List Oper}{Q:Exit->Act->World->Prop}{fuel:Nat}{listed:Array Bool}{E:List (Nat×Value)}{w:World}
theorem St.any (c:P.follows .mixedOrders=true) (e:l.length=k) (h:∀ w1,Ac w w1->CE 0 w w1->w1.heap=w.heap->WA P n l Q k (Array.replicate k false) E w1):St P n E w (.region id l.toArray true) Q:=by intro a d;subst e;refine wp_region_any c ?_;have:=h { w with drawn:=w.drawn+1 } ⟨rfl,rfl,rfl,Ai _,fun _ _=>rfl⟩ ⟨rfl,rfl,rfl,Ai _,fun _ _ _=>rfl⟩ rfl a d;simpa using this
theorem WA.take (i:Nat) {d:Nat}{v:Value}(q:l.toArray[i]?=some o) (j:o.dst=some d) (u:Region.noSelect l.toArray=true) (k:Region.free .any l.toArray listed i=true) (r:(Region.ready .any l.toArray listed).contains i=true)
  (g:∀ c a w,Q (.panic c) (a.put o.dst v) w->Q (.panic c) a w) (y:Bg l.toArray E o.guard=some true) (m:Nat.blt d n=true) (z:∀ w,A0 P n o E w v) (next:WA P n l Q fuel (listed.setIfInBounds i true) ((d,v)::E) w):WA P n l Q (fuel+1) listed E w:=by intro a e;refine wpAny_take q u k r g (.inl ⟨CL e y,fun w'=>z w' a e⟩) (next _ ?_);rw[j];exact e.put m v
theorem WA.pure (g:Aw P T) (i:Nat) {d:Nat}{v:Value}(q:l.toArray[i]?=some o) (j:o.dst=some d) (u:Region.noSelect l.toArray=true) (k:Region.free .any l.toArray listed i=true) (r:(Region.ready .any l.toArray listed).contains i=true)
  (e:∀ c a w,Q (.panic c) (a.put o.dst v) w->Q (.panic c) a w) (y:Bg l.toArray E o.guard=some true) (m:Nat.blt d n=true) (z:Ht T E o.op=some v) (next:WA P n l Q fuel (listed.setIfInBounds i true) ((d,v)::E) w):WA P n l Q (fuel+1) listed E w :=
 WA.take i q j u k r e y m (fun _=>A0.pure g z) next
def Ed (P:Program) (n:Nat) (l:List Oper) (Q:Exit->Act->World->Prop) (fuel:Nat) (listed:Array Bool) (E:List (Nat×Value)) (w:World) (i:Nat):Prop:=∀ a,DM n E a->wpOp P l.toArray Q i (wpAny P .any l.toArray Q fuel (listed.setIfInBounds i true)) a w
theorem Ed.val {d:Nat}(j:l.toArray[i]?=some o) (e:o.dst=some d) (k:Bg l.toArray E o.guard=some true) (g:Nat.blt d n=true) (h:Av P n o E w Φ) (next:∀ v w',Φ v w'->WA P n l Q fuel (listed.setIfInBounds i true) ((d,v)::E) w'):Ed P n l Q fuel listed E w i:=by intro a c;unfold wpOp;simp only[j];rw[if_pos (CL c k)];exact .inl (h a c Q _ fun v w' hv=>next v w' hv _ (by rw[e];exact c.put g v))
theorem wV {d:Nat}(h:Av P n o E w Φ) (next:∀ v w',Φ v w'->WA P n l Q fuel (listed.setIfInBounds i true) ((d,v)::E) w') (g:l.toArray[i]?=some o:=by exact rfl) (c:o.dst=some d:=by exact rfl) (j:Bg l.toArray E o.guard=some true:=by exact rfl) (e:Nat.blt d n=true:=by exact rfl):Ed P n l Q fuel listed E w i:=Ed.val g c j e h next
theorem Ed.eff (e:l.toArray[i]?=some o) (d:o.dst=none) (g:Bg l.toArray E o.guard=some true) (h:Av P n o E w Φ) (next:∀ v w',Φ v w'->WA P n l Q fuel (listed.setIfInBounds i true) E w'):Ed P n l Q fuel listed E w i:=by intro a c;unfold wpOp;simp only[e];rw[if_pos (CL c g)];exact .inl (h a c Q _ fun v w' hv=>next v w' hv _ (by rw[d];exact c))
theorem wE (h:Av P n o E w Φ) (next:∀ v w',Φ v w'->WA P n l Q fuel (listed.setIfInBounds i true) E w') (d:l.toArray[i]?=some o:=by exact rfl) (c:o.dst=none:=by exact rfl) (e:Bg l.toArray E o.guard=some true:=by exact rfl):Ed P n l Q fuel listed E w i:=Ed.eff d c e h next
theorem WA.one (e:Region.ready .any l.toArray listed=[i]) (h:Ed P n l Q fuel listed E w i):WA P n l Q (fuel+1) listed E w:=by intro a d;refine wpAny_all e sm ?_;intro j c;simp only[Du]at c;subst c;exact h a d
theorem WA.two (g:Region.ready .any l.toArray listed=[i,j]) (h:Ed P n l Q fuel listed E w i) (e:Ed P n l Q fuel listed E w j):WA P n l Q (fuel+1) listed E w:=by
 intro a c;refine wpAny_all g sm ?_;intro k d;simp only[Cw,LN,or_false]at d;rcases d with rfl | rfl
 ·exact h a c
 ·exact e a c
theorem WA.done (d:Region.ready .any l.toArray listed=[]) (h:Ad n E w .normal Q):WA P n l Q fuel listed E w :=
 fun a c=>wpAny_done d (h a c) _
def A0Y (l:List Oper):List Nat->Array Bool->Bool
 | [],_=>true
 | i::r,listed=>Region.free .any l.toArray listed i && (Region.ready .any l.toArray listed).contains i && A0Y l r (listed.setIfInBounds i true)
def A4p:List Nat->Array Bool->Array Bool
 | [],listed=>listed
 | i::r,listed=>A4p r (listed.setIfInBounds i true)
def XQ (T:List (Nat×TI)) (n:Nat) (l:List Oper):List Nat->List (Nat×Value)->Option (List (Nat×Value))
 | [],E=>some E
 | i::r,E =>
  match l[i]? with
  | some o =>
   match o.dst,Bg l.toArray E o.guard,Ht T E o.op with
   | some d,some true,some v=>bif Nat.blt d n then XQ T n l r ((d,v)::E) else none
   | _,_,_=>none
  | none=>none
theorem WA.takes (k:Aw P T) (q:Region.noSelect l.toArray=true) (j:∀ (d:Nat) v c a w,Q (.panic c) (a.put (some d) v) w->Q (.panic c) a w):∀ (is:List Nat) {fuel:Nat}{listed:Array Bool}{E E':List (Nat×Value)},A0Y l is listed=true->XQ T n l is E=some E'->WA P n l Q fuel (A4p is listed) E' w->WA P n l Q (fuel+is.length) listed E w:=by
 intro is;induction is with
 | nil=>intro fuel listed E E' _ h e;simp only[XQ,AP]at h;subst h;exact e
 | cons i r ih =>
  intro fuel listed E E' hB h e;simp only[A0Y,Et]at hB;simp only[XQ]at h;split at h
  ·rename_i o m;split at h
   ·rename_i d v g u hv;cases hb:Nat.blt d n with
    | false=>rw[hb]at h;cases h
    | true =>
     rw[hb]at h;simp only[cond_true]at h;have:=ih hB.2 h e;exact WA.pure k i (by simpa using m) g q hB.1.1 hB.1.2 (fun c a w=>by rw[g];exact j d _ c a w) u hb hv this
   ·cases h
  ·cases h
theorem St.cL (d:α->List (Nat×Value)) (I:α->World->Prop) {x y:Code}(o:St P n E w x (Exit.then (Met n d I) Q)) (q:∀ g w,I g w->St P n (d g) w y Q):St P n E w x (Exit.then (y.wp P Q) Q):=by
 intro a k;refine wp_mono (o a k) ?_;intro e a2 w2 c;cases e with
 | normal =>
  obtain⟨g,m,j⟩:=c;exact q g w2 j a2 m
 | exit id=>exact c
 | goto l=>exact c
 | ret=>exact c
 | panic ch=>exact c
 | outgrown=>exact c
end
end Go.Qf
namespace Go.Qf
open Go Go.RowKit Go.Lib Go.Proofs Go.Proofs.Tryz
variable {w':World}{b k s1 s2 cap b2 b1:Nat}{t ty e et t2:TypeId}{af:Array Edge}{g:Option (Nat×Bool)}{x:Operand}{d:Option Tmp}{xs bs:List Nat}{C cs:List Value}{z:Value}{ti:TI}
def Nb (bs:List Nat):ByteArray:=⟨(bs.map UInt8.ofNat).toArray⟩
def B8 (bs:List Nat):Prop:=∀ b ∈ bs,b<256
abbrev MG (bs:List Nat):Value:=.string (Nb bs)
abbrev u8 (x:Nat):Value:=.int .u8 x
theorem WQ (bs:List Nat):(Nb bs).size=bs.length:=by simp[Nb,ByteArray.size]
theorem A4q (h:b<256):(UInt8.ofNat b).toNat=b:=by simp[UInt8.toNat_ofNat'];omega
theorem A0Z (g:B8 xs) (j:B8 bs) (h:xs.map UInt8.ofNat=bs.map UInt8.ofNat):xs=bs:=by
 have c:(xs.map UInt8.ofNat).map UInt8.toNat=(bs.map UInt8.ofNat).map UInt8.toNat:=by rw[h]
 simp only[List.map_map]at c;have e:∀ {l:List Nat},B8 l->l.map (UInt8.toNat ∘ UInt8.ofNat)=l:=by
  intro l d;induction l with
  | nil=>rfl
  | cons x r ih =>
   have k:x<256:=d x sm;simp only[Er,Function.comp_apply,A4q k,ih (fun y m=>d y (by simp[m]))]
 rwa [e g,e j]at c
theorem A4r (c:B8 xs) (d:B8 bs) (h:Nb xs=Nb bs):xs=bs:=by refine A0Z c d ?_;have:=congrArg (fun s:ByteArray=>s.data.toList) h;simpa[Nb] using this
theorem Zr (xs bs:List Nat):Nb xs++Nb bs=Nb (xs++bs):=by apply Go.WideShapes.bytes_inj;simp[Nb]
section
variable {P:Program}{T:List (Nat×TI)}{n:Nat}{E:List (Nat×Value)}{w:World}
theorem Zs (c:B8 xs) (d:B8 bs):((Nb xs).toList == (Nb bs).toList)=decide (xs=bs):=by
 rw[ByteArray.toList_eq,ByteArray.toList_eq];by_cases h:xs=bs
 ·subst h;simp
 ·have:¬ ((Nb xs).data.toList=(Nb bs).data.toList):=fun e=>h (A4r c d (Go.WideShapes.bytes_inj e));simp only[decide_eq_false h];exact beq_eq_false_iff_ne.2 this
theorem A0.strEql {y:Operand}{pos:String}(e:B8 xs) (j:B8 bs) (k:ov E x=some (MG xs)) (l:ov E y=some (MG bs)) :
  A0 P n ⟨d,.binOp .eql t x y t2,ty,pos,af,g⟩ E w (.bool (decide (xs=bs))):=by intro f c;have e1:=c.eval k;have e2:=c.eval l;generalize f.eval=ρ at e1 e2;simp only[execOp,e1,e2,eqGuard,binOp,Op.stringOp,Zs e j];simp[go_sem]
theorem A0.strNeq {y:Operand}{pos:String}(e:B8 xs) (j:B8 bs) (k:ov E x=some (MG xs)) (l:ov E y=some (MG bs)) :
  A0 P n ⟨d,.binOp .neq t x y t2,ty,pos,af,g⟩ E w (.bool (!(decide (xs=bs)))):=by intro f c;have e1:=c.eval k;have e2:=c.eval l;generalize f.eval=ρ at e1 e2;simp only[execOp,e1,e2,eqGuard,binOp,Op.stringOp,Zs e j];simp[go_sem]
theorem A0.dR {y:Operand}{pos:String}(k:ov E x=some (MG xs)) (l:ov E y=some (MG bs)) (m:xs.length+bs.length<=1000000000000) :
  A0 P n ⟨d,.binOp .add t x y t2,ty,pos,af,g⟩ E w (MG (xs++bs)):=by
 intro f c;have e1:=c.eval k;have e2:=c.eval l;generalize f.eval=ρ at e1 e2;have j:IntKind.i64.max=9223372036854775807:=rfl;have e:¬ ((((Nb xs).size+(Nb bs).size:Nat):Int) > IntKind.i64.max):=by rw[WQ,WQ,j];omega
 simp only[execOp,e1,e2,eqGuard,binOp,Op.stringOp,if_neg e,Zr];simp[go_sem]
theorem Qu {a:Addr}{len:Nat}(h:Jk e w (.slice (some a) len cap) cs):(loadCells a len).run P w=.ok cs.toArray w:=by
 obtain⟨p,cap',hv,j,_,d⟩:=h;simp only[Ci]at hv;obtain⟨rfl,rfl,rfl⟩:=hv;have key:∀ (m i:Nat) (acc:Array Value),i+m=cs.length->(loadCellsFrom a i m acc).run P w=.ok (acc++(cs.drop i).toArray) w:=by
  intro m;induction m with
  | zero=>intro i acc g;rw[TN oo];simp[loadCellsFrom,go_sem]
  | succ m ih =>
   intro i acc g;have c:i<cs.length:=by omega
   unfold loadCellsFrom;simp only[Bq];rw[Rk (d a rfl i cs[i] (by simp[c])),Bp,ih (i+1) _ oo];congr 1;rw[ED c];simp
 have:=key cs.length 0 #[] oo;simpa[loadCells] using this
theorem A10 (ns:List Nat):∀ (s:ByteArray),(ns.map (fun x:Nat=>(x:Int))).foldl (fun r n=>r.push (UInt8.ofNat n.toNat)) s=⟨s.data++(ns.map UInt8.ofNat).toArray⟩:=by
 induction ns with
 | nil=>intro s;simp
 | cons x r ih =>
  intro s;simp only[Er,TG,Cj];rw[ih];apply Go.WideShapes.bytes_inj;simp[ByteArray.push]
theorem A0.dS (j:Aw P T) {pos:String}{s3 s4:Nat}{z2:Value}{v:Value}
  (u:AG T t=some ⟨.slice et,s1,s2,z⟩) (b:AG T et=some ti) (r:ti.desc=.int .u8) (y:AG T t2=some ⟨.string,s3,s4,z2⟩) (h:ov E x=some v) (c:Jk et w v (bs.map u8)) :
  A0 P n ⟨d,.convert t t2 x,ty,pos,af,g⟩ E w (MG bs):=by
 intro f q;have e1:=q.eval h;generalize f.eval=ρ at e1;have hu:=(j et ti b).1;rw[r]at hu;have m:(Conv.bytesToString v).run P w=.ok (MG bs) w:=by
  obtain⟨p,cap,hv⟩:=c.len;subst hv;cases p with
  | none =>
   have l:=Jk.dO c;have:bs=[]:=by simpa using l
   subst this;simp only[Conv.bytesToString,AX];rfl
  | some a =>
   have k:=Qu (P:=P) c;have e:bs.map u8=(bs.map (fun x:Nat=>(x:Int))).map (Value.int .u8):=by simp[List.map_map,Function.comp_def]
   rw[e]at k;have:=run_bytesToString (P:=P) w a _ cap (bs.map (fun x:Nat=>(x:Int))) k;rw[A10]at this;simpa[MG,Nb] using this
 have o:(convert t t2 v).run P w=.ok (MG bs) w:=by obtain⟨p,cap,hv⟩:=c.len;subst hv;unfold convert;simp only[Bq,Ag j u,Ag j y,Bp,run_underlying hu,m]
 simp only[execOp,e1,Bq,o,Bp,AX]
def It (w:World) (k:Nat) (s:ByteArray) (pos:Nat):Prop:=w.heap[k]?=some (.stringIter s pos)
theorem It.lt {s:ByteArray}{pos:Nat}(h:It w k s pos):k<w.heap.size:=(Gt.1 h).1
theorem It.ext {s:ByteArray}{pos:Nat}(h:It w k s pos) (c:Ac w w'):It w' k s pos:=(c.block k h.lt).trans h
end
theorem Gh.cY {e1 e2:TypeId}{w:World}{v1 v2:Value}{c1 c2:List Value}(d:Gh b1 e1 w v1 c1) (e:Gh b2 e2 w v2 c2) (k:e1≠e2) (j:w.grownBy w' v2.ownBlock):Gh b1 e1 w' v1 c1:=by
 refine⟨d.1,?_⟩;rcases d.2 with h0 | ⟨g,cap,cur,hv,hb,hgg,r⟩
 ·exact .inl h0
 ·refine .inr ⟨g,cap,cur,hv,hb,(j.block g (Gt.1 hgg).1 ?_).trans hgg,r⟩;intro c;rcases e.2 with ⟨h0,_⟩ | ⟨g',cap',cur',hv',_,hg',_⟩
  ·rw[h0]at c;simp[Value.ownBlock]at c
  ·rw[hv']at c;simp only[Value.ownBlock,AP]at c;subst c;rw[hgg]at hg';simp only[AP,Obj.cells.injEq]at hg';exact k hg'.2.1
theorem Aj.cY {e2:TypeId}{w:World}{v2:Value}{c2:List Value}(d:Aj t w b C) (e:Gh b2 e2 w v2 c2) (j:t≠e2) (g:w.grownBy w' v2.ownBlock):Aj t w' b C:=by
 refine (g.block b d.lt ?_).trans d;intro c;rcases e.2 with ⟨h0,_⟩ | ⟨g',cap',cur',hv',_,hg',_⟩
 ·rw[h0]at c;simp[Value.ownBlock]at c
 ·rw[hv']at c;simp only[Value.ownBlock,AP]at c;subst c;unfold Aj at d;rw[d]at hg';simp only[AP,Obj.cells.injEq]at hg';exact j hg'.2.1
end Go.Qf
namespace Go.Qf
open Go Go.RowKit Go.Proofs Go.Proofs.Tryz Go.ChangeShapes Go.WideShapes Go.Joins
theorem laidOut:laidOutB prog=true:=by kernel_rfl
section
variable {H:Type}{enc:TypeId×Value->H}{W:World}{base:Nat}{spare:Nat->Bool}{held:Bool}{r:Reach}{b0:Nat}{v:Value}{d:DataW H}{p:List MemPlace}
theorem A7U {n:Int}(h:(Lit.int .u32 n).wf=true):∃ m:Nat,n=m/\m<4294967296:=by have:=bounds_u32 h;exact⟨n.toNat,by omega,by omega⟩
theorem A11 {fuel:Nat}{c:Value}{y:DataW H×List MemPlace}(h:DataW.trod enc prog W base spare held fuel 35 [c]=some y):∃ q cap xs,c=.slice q xs.length cap/\Sl W (.slice q xs.length cap) xs/\xs.length<=maxLen:=by
 rcases open_ints underlying35 underlying109 kr h with ⟨hcs,_⟩ | ⟨a,len,cap,zs,hcs,_,hl,hm,g,_,hcell,hwz⟩
 ·simp only[Iu,and_true]at hcs;subst hcs;exact⟨none,0,[],rfl,⟨⟨none,0,rfl,Ai _,fun _=>rfl,fun a u=>by cases u⟩,EB.nil⟩,Cu _⟩
 ·simp only[Iu,and_true]at hcs;subst hcs;have n:len<=zs.length:=by rw[g];split <;> omega
  have k:∀ z ∈ zs,∃ m:Nat,z=m/\m<4294967296:=fun z g=>A7U (hwz z g);have l:((zs.take len).map Int.toNat).length=len:=by simp;omega
  refine⟨some a,cap,(zs.take len).map Int.toNat,by rw[l],?_,by omega⟩;rw[l];refine⟨⟨some a,cap,by simp;omega,by simp;omega,fun e=>(by cases e),?_⟩,?_⟩
  ·intro a' v i c d;cases v;have t:i<len:=by have:=(Au.1 d).1;simp at this;omega
   have:=hcell i oo;rw[this];have j:zs[i]?=some zs[i]:=by simp
   obtain⟨m,b,o⟩:=k zs[i] (Bi j);simp only[J7,Dz t,j,LP,AP]at d;rw[<- d];simp only[Bd,j,Option.getD_some,b];simp
  ·intro x r;simp only[CG]at r;obtain⟨z,f,rfl⟩:=r;obtain⟨m,rfl,o⟩:=k z (HU f);simpa using o
theorem open_i64 {t:TypeId}(c:prog.underlying t=some (.int .i64)) (hv:Value.okWide prog W r b0 t v) (h:DataW.Trod enc prog W base spare held t v d p):∃ a,v=.int .i64 a/\-9223372036854775808<=a/\a<=9223372036854775807:=by obtain⟨a,rfl,_,_,e⟩:=open_int c hv h;exact⟨a,rfl,bounds_i64 e⟩
theorem open_u8 (hv:Value.okWide prog W r b0 5 v) (h:DataW.Trod enc prog W base spare held 5 v d p):∃ a:Nat,v=u8 a/\a<256:=by obtain⟨a,rfl,_,_,c⟩:=open_int underlying5 hv h;have:=bounds_u8 c;exact⟨a.toNat,by simp[u8];omega,by omega⟩
theorem open_B (hv:Value.okWide prog W r b0 4 v) (h:DataW.Trod enc prog W base spare held 4 v d p):∃ a,v=.bool a:=by
 obtain⟨fuel,e⟩:=h;have c:∃ a,v=.bool a:=by unfold Value.okWide Cell.okWide Cell.ok at hv;rw[underlying4]at hv;cases v <;> simp at hv;exact⟨_,rfl⟩
 exact c
end
end Go.Qf
namespace Go.Qf
open Go Go.RowKit Go.Proofs Go.Proofs.Tryz
variable {n base b cap:Nat}{ty:TypeId}{af:Array Edge}{g:Option (Nat×Bool)}{x:Operand}{E:List (Nat×Value)}{d:Option Tmp}{xs:List Nat}{C cs:List Value}{Q:Exit->Act->World->Prop}{w0:World}{ops:Array Oper}
theorem SB (neg:Bool) (m k:Nat):sg neg (m+k)=sg neg m+sg neg k:=by cases neg <;> simp[sg];omega
theorem Uc (neg:Bool) (m k:Nat) (h:k<=m):sg neg (m - k)=sg neg m+sg (!neg) k:=by cases neg <;> simp[sg] <;> omega
theorem Af.aJ {w:World}{t s:Nat}{pos:String}{v:Value}{a:Int}
  (d:AR E t=some (.pointer (some ⟨b,0,none⟩))) (q:AR E s=some v) (c:Aj 37 w b C) (e:C.length=2) (hv:Ao base w v a) (u:Ac w0 w) (j:w0.heap.size<=b)
  (g:∀ w',Ac w0 w'->Ao base w' v a->(∀ (fn:Func) (Φ:Value->World->Prop),fn.results=#[.cell t 37]->Φ v w'->Ad n E w' .ret (bodyPost prog fn (AJ Φ)))->Ad n E w' .normal Q) :
  Af prog n E w ops [⟨none,.store 37 (.tmp t) (.tmp s),ty,pos,af,none⟩] Q:=by refine Af.bQ d q c e hv u j ?_;intro f cs l m k r y;refine Af.nil (g f y (Ao.upd hv r ⟨_,c⟩) ?_);intro fn Φ o z;exact Ad.aC A8 [v] o ⟨⟨_,_,_,_,d,k,rfl,rfl,m,l⟩,trivial⟩ z
theorem Nc (w:World) (na nb:Bool) (u v:Value) (m k:Nat) (h:Sl w u (Ae m)) (x:Sl w v (Ae k)) (E:(Ae m).length<=10000000) (D:(Ae k).length<=10000000) :
  Calls prog 207 #[.bool na,u,.bool nb,v] w (AJ fun r w'=>Ac w w'/\Ub w' r (sg na m+sg nb k)):=by
 refine cS func207 ntmps207 ?_;refine Nv ?_;refine .s (oA) ?_;rintro _ w1 ⟨rfl,b,o,_⟩;have q:=h.ext o;have k1:=x.ext o;refine A7 ?_;refine .p (A0.cW A8 rfl rfl rfl) ?_;refine A7 ?_;by_cases B:na=nb
 ·subst B;refine St.aD rfl sm ?_;refine A7 ?_;refine .s (oK Kr (Sv w1 _ _ _ _ q k1 oo oo)) ?_;rintro sl w2 ⟨e,c⟩;rw[Al,Al]at c;have i:=FY m k;refine .s (oK BO (GQ w2 na sl (m+k) c oo)) ?_;rintro r w3 ⟨d,hv⟩;rw[SB]at hv;refine Af.aJ rfl rfl ((b.ext e).ext d) rfl hv ((o.trans e).trans d) AO ?_;intro w' l g fin;refine Nv ?_;exact fin _ _ rfl ⟨l,g⟩
 have A:nb=!na:=by cases na <;> cases nb <;> simp_all
 subst A;refine St.ay rfl (by cases na <;> rfl) ?_;refine A7 ?_;refine .s (oK Fp (Jd w1 _ _ m k q k1 oo oo)) ?_;rintro _ w2 ⟨e,rfl⟩;have t:=q.ext e;have k2:=k1.ext e;have f:=b.ext e;have n:=o.trans e;by_cases y:k<=m
 ·refine .a 1 (.bool true) rfl (Aa (by unfold GY;rw[if_neg oo];split <;> decide)) ?_;refine A7 ?_;refine .ct ?_;have z:=AA k m y;refine .s (oK Hy (N0 w2 _ _ _ _ t k2 oo oo z (by rw[Al,Al];exact y))) ?_;rintro sl w3 ⟨d,c⟩;rw[Al,Al]at c;have i:=AA (m - k) m (Nat.sub_le _ _);refine .s (oK BO (GQ w3 na sl (m - k) c oo)) ?_;rintro r C ⟨j,hv⟩;rw[Uc _ _ _ y]at hv;refine Af.aJ rfl rfl ((f.ext d).ext j) rfl hv ((n.trans d).trans j) AO ?_;intro w' l g fin;refine Nv ?_;exact fin _ _ rfl ⟨l,g⟩
 ·refine .a 1 (.bool false) rfl (A9 (by unfold GY;rw[if_pos oo];decide)) ?_;refine A7 ?_;refine .cf ?_;have z:=AA m k oo;refine .s (oK Hy (N0 w2 _ _ _ _ k2 t oo oo z (by rw[Al,Al];omega))) ?_;rintro sl w3 ⟨d,c⟩;rw[Al,Al]at c;have i:=AA (k - m) k (Nat.sub_le _ _);refine .s (oK BO (GQ w3 (!na) sl (k - m) c oo)) ?_;rintro r C ⟨j,hv⟩;rw[Uc _ _ _ oo,Bool.not_not,NW]at hv;refine Af.aJ rfl rfl ((f.ext d).ext j) rfl hv ((n.trans d).trans j) AO ?_;intro w' l g fin;refine Nv ?_;exact fin _ _ rfl ⟨l,g⟩
theorem KP.trimmed {w:World}{_neg:Bool}{p:Option Addr}(c:Sl w (.slice p xs.length cap) xs):Sl w (.slice p (Ae (Ah xs)).length cap) (Ae (Ah xs)):=by have:=c.cut (Ae (Ah xs)).length (Ap _ c.2);rwa [<- OW c.2]at this
theorem A4s (w:World) (x y:Value) (na nb:Bool) (xs ys:List Nat) (h:KP w x na xs) (k:KP w y nb ys) (E:xs.length<=10000000) (B:ys.length<=10000000) :
  Calls prog 169 #[x,y] w (AJ fun r w'=>Ac w w'/\Ub w' r (sg na (Ah xs)+sg nb (Ah ys))):=by
 obtain⟨p,cap,rfl,u⟩:=h;obtain⟨q,cb,rfl,ks⟩:=k;refine cS func169 ntmps169 ?_;refine Nv ?_;refine .s (oB) ?_;rintro _ w1 ⟨rfl,a,z,_⟩;refine .s (oB) ?_;rintro _ w2 ⟨rfl,b,g,_⟩;refine .s (oA) ?_;rintro _ w3 ⟨rfl,f,j,_⟩;have e:=(z.trans g).trans j;have l:=u.ext e;have k3:=ks.ext e;have m:=(a.ext g).ext j;have o:=b.ext j;have C:=Ap xs u.2;have D:=Ap ys ks.2;refine Nv ?_;refine sD 11 [(5,Is (.pointer (some ⟨w.heap.size,0,none⟩))),(6,Is (.bool na)),(7,Is (.pointer (some ⟨w.heap.size,1,none⟩))),(8,Is (.slice p xs.length cap)),(9,Is (.slice p (Ae (Ah xs)).length cap)),(10,Is (.pointer (some ⟨w1.heap.size,0,none⟩))),(11,Is (.bool nb)),(12,Is (.pointer (some ⟨w1.heap.size,1,none⟩))),(13,Is (.slice q ys.length cb)),(14,Is (.slice q (Ae (Ah ys)).length cb)),(15,fun v w'=>Ub w' v (sg na (Ah xs)+sg nb (Ah ys)))] ?_ ?_
 ·refine⟨?_,?_,?_,?_,?_,?_,?_,?_,?_,?_,?_,trivial⟩
  ·exact fun d c=>oP
  ·rintro d c _ rfl;exact CD.run rfl rfl rfl rfl (FX (m.ext c)) rfl
  ·exact fun d c=>oP
  ·rintro d c _ rfl;exact CD.run rfl rfl rfl rfl (FX (m.ext c)) rfl
  ·rintro d c _ rfl;refine oC AB (BN d _ _ (l.ext c) oo) ?_;rintro v A ⟨rfl,rfl,_⟩;exact⟨Ac.refl _,rfl⟩
  ·exact fun d c=>oP
  ·rintro d c _ rfl;exact CD.run rfl rfl rfl rfl (FX (o.ext c)) rfl
  ·exact fun d c=>oP
  ·rintro d c _ rfl;exact CD.run rfl rfl rfl rfl (FX (o.ext c)) rfl
  ·rintro d c _ rfl;refine oC AB (BN d _ _ (k3.ext c) oo) ?_;rintro v A ⟨rfl,rfl,_⟩;exact⟨Ac.refl _,rfl⟩
  ·rintro d c _ rfl _ rfl _ rfl _ rfl;exact oC IV (Nc d na nb _ _ _ _ (KP.trimmed (_neg:=na) (l.ext c)) (KP.trimmed (_neg:=nb) (k3.ext c)) oo oo) (fun v w' hv=>hv)
 intro d c L _ M _ N _ O _ P _ F _ G _ H _ I _ J _ K t _;refine Af.aJ rfl rfl (f.ext c) rfl t (e.trans c) (z.trans g).size ?_;intro w' n i fin;refine Nv ?_;exact fin _ _ rfl ⟨n,i⟩
theorem A4t (w:World) (x y:Value) (na nb:Bool) (xs ys:List Nat) (h:KP w x na xs) (k:KP w y nb ys) (E:xs.length<=10000000) (B:ys.length<=10000000) :
  Calls prog 234 #[x,y] w (AJ fun r w'=>Ac w w'/\Ub w' r (sg na (Ah xs)+sg (!nb) (Ah ys))):=by
 obtain⟨p,cap,rfl,u⟩:=h;obtain⟨q,cb,rfl,ks⟩:=k;refine cS func234 ntmps234 ?_;refine Nv ?_;refine .s (oB) ?_;rintro _ w1 ⟨rfl,a,z,_⟩;refine .s (oB) ?_;rintro _ w2 ⟨rfl,b,g,_⟩;refine .s (oA) ?_;rintro _ w3 ⟨rfl,f,j,_⟩;have e:=(z.trans g).trans j;have l:=u.ext e;have k3:=ks.ext e;have m:=(a.ext g).ext j;have o:=b.ext j;have C:=Ap xs u.2;have D:=Ap ys ks.2;refine Nv ?_;refine sD 12 [(5,Is (.pointer (some ⟨w.heap.size,0,none⟩))),(6,Is (.bool na)),(7,Is (.pointer (some ⟨w.heap.size,1,none⟩))),(8,Is (.slice p xs.length cap)),(9,Is (.slice p (Ae (Ah xs)).length cap)),(10,Is (.pointer (some ⟨w1.heap.size,0,none⟩))),(11,Is (.bool nb)),(12,Is (.bool (!nb))),(13,Is (.pointer (some ⟨w1.heap.size,1,none⟩))),(14,Is (.slice q ys.length cb)),(15,Is (.slice q (Ae (Ah ys)).length cb)),(16,fun v w'=>Ub w' v (sg na (Ah xs)+sg (!nb) (Ah ys)))] ?_ ?_
 ·refine⟨?_,?_,?_,?_,?_,?_,?_,?_,?_,?_,?_,?_,trivial⟩
  ·exact fun d c=>oP
  ·rintro d c _ rfl;exact CD.run rfl rfl rfl rfl (FX (m.ext c)) rfl
  ·exact fun d c=>oP
  ·rintro d c _ rfl;exact CD.run rfl rfl rfl rfl (FX (m.ext c)) rfl
  ·rintro d c _ rfl;refine oC AB (BN d _ _ (l.ext c) oo) ?_;rintro v A ⟨rfl,rfl,_⟩;exact⟨Ac.refl _,rfl⟩
  ·exact fun d c=>oP
  ·rintro d c _ rfl;exact CD.run rfl rfl rfl rfl (FX (o.ext c)) rfl
  ·rintro d c _ rfl;exact oP
  ·exact fun d c=>oP
  ·rintro d c _ rfl;exact CD.run rfl rfl rfl rfl (FX (o.ext c)) rfl
  ·rintro d c _ rfl;refine oC AB (BN d _ _ (k3.ext c) oo) ?_;rintro v A ⟨rfl,rfl,_⟩;exact⟨Ac.refl _,rfl⟩
  ·rintro d c _ rfl _ rfl _ rfl _ rfl;exact oC IV (Nc d na (!nb) _ _ _ _ (KP.trimmed (_neg:=na) (l.ext c)) (KP.trimmed (_neg:=nb) (k3.ext c)) oo oo) (fun v w' hv=>hv)
 intro d c M _ N _ O _ P _ Q _ F _ G _ H _ I _ J _ K _ L t _;refine Af.aJ rfl rfl (f.ext c) rfl t (e.trans c) (z.trans g).size ?_;intro w' n i fin;refine Nv ?_;exact fin _ _ rfl ⟨n,i⟩
theorem A12 (neg:Bool) (m:Nat):sg (!neg) m=- sg neg m:=by cases neg <;> simp[sg]
theorem A0.bB {w:World}{pos:String}{v:Value}(j:ov E x=some (.pointer (some ⟨b,0,none⟩))) (e:Aj 37 w b cs) (c:cs.length=2) (hv:v=.agg cs.toArray) :
  A0 prog n ⟨d,.load 37 x,ty,pos,af,g⟩ E w v:=by subst hv;refine A0.aA A8 rfl rfl j e (by rw[c];exact Ai 2) ?_;rw[FE];exact Bs (by rw[c];exact Ai 2)
def AH (a:Int):Int:=if a<0 then -1 else if a=0 then 0 else 1
theorem Nf (neg:Bool) (m:Nat):AH (sg neg m)=if m=0 then 0 else if neg then -1 else 1:=by unfold AH sg;cases neg <;> by_cases h:m=0 <;> simp[h] <;> omega
theorem RB (w:World) (v:Value) (neg:Bool) (xs:List Nat) (h:KP w v neg xs) (k:xs.length<=100000000) :
  Calls prog 43 #[v] w (AJ fun r w'=>Ac w w'/\r=.int .i64 (AH (sg neg (Ah xs)))):=by
 obtain⟨p,cap,rfl,g⟩:=h;refine cS func43 ntmps43 ?_;refine Nv ?_;refine .s (oB) ?_;rintro _ w1 ⟨rfl,e,d,_⟩;have j:=g.ext d;refine A7 ?_;refine .p (FX e) ?_;refine .s (Av.call AB rfl (BN w1 _ _ j oo)) ?_;rintro _ w2 ⟨rfl,rfl,_⟩;rw[Nf];refine A7 ?_;by_cases c:Ah xs=0
 ·refine St.aD rfl (by rw[c];rfl) ?_;refine A7 ?_;exact Ad.ax rfl rfl ⟨d,by rw[if_pos c]⟩
 refine St.ay rfl (by simp[CQ,c]) ?_;refine A7 ?_;refine .p (FX e) ?_;refine A7 ?_;cases neg with
 | true =>
  refine .ct ?_;exact Ad.ax rfl rfl ⟨d,by rw[if_neg c];rfl⟩
 | false =>
  refine .cf ?_;exact Ad.ax rfl rfl ⟨d,by rw[if_neg c];rfl⟩
theorem A4u (na nb:Bool) (m k:Nat):sg (!(na == nb)) (m * k)=sg na m * sg nb k:=by cases na <;> cases nb <;> simp[sg,Ju,Jv]
theorem A4v (w:World) (x y:Value) (na nb:Bool) (xs ys:List Nat) (h:KP w x na xs) (k:KP w y nb ys) (I:xs.length<=10000000) (E:ys.length<=10000000) :
  Calls prog 37 #[x,y] w (AJ fun r w'=>Ac w w'/\Ub w' r (sg na (Ah xs) * sg nb (Ah ys))):=by
 obtain⟨p,cap,rfl,t⟩:=h;obtain⟨q,cb,rfl,ks⟩:=k;refine cS func37 ntmps37 ?_;refine Nv ?_;refine .s (oB) ?_;rintro _ w1 ⟨rfl,n,a,_⟩;refine .s (oB) ?_;rintro _ w2 ⟨rfl,A,g,_⟩;refine .s (oA) ?_;rintro _ w3 ⟨rfl,B,j,_⟩;have e:=(a.trans g).trans j;have o:=t.ext e;have k3:=ks.ext e;have u:=(n.ext g).ext j;have z:=A.ext j;have F:=Ap xs t.2;have G:=Ap ys ks.2;have H:=KR (Ah xs) (Ah ys);refine Nv ?_;refine sD 13 [(5,Is (.pointer (some ⟨w.heap.size,0,none⟩))),(6,Is (.bool na)),(7,Is (.pointer (some ⟨w1.heap.size,0,none⟩))),(8,Is (.bool nb)),(9,Is (.bool (!(na == nb)))),(10,Is (.pointer (some ⟨w.heap.size,1,none⟩))),(11,Is (.slice p xs.length cap)),(12,Is (.slice p (Ae (Ah xs)).length cap)),(13,Is (.pointer (some ⟨w1.heap.size,1,none⟩))),(14,Is (.slice q ys.length cb)),(15,Is (.slice q (Ae (Ah ys)).length cb)),(16,fun v w'=>Ei 0 w' v (Ae (Ah xs * Ah ys))),(17,fun v w'=>Ub w' v (sg na (Ah xs) * sg nb (Ah ys)))] ?_ ?_
 ·refine⟨?_,?_,?_,?_,?_,?_,?_,?_,?_,?_,?_,?_,?_,trivial⟩
  ·exact fun d c=>oP
  ·rintro d c _ rfl;exact CD.run rfl rfl rfl rfl (FX (u.ext c)) rfl
  ·exact fun d c=>oP
  ·rintro d c _ rfl;exact CD.run rfl rfl rfl rfl (FX (z.ext c)) rfl
  ·rintro d c _ rfl _ rfl;exact CD.run rfl rfl rfl rfl (A0.cX A8 rfl rfl rfl) rfl
  ·exact fun d c=>oP
  ·rintro d c _ rfl;exact CD.run rfl rfl rfl rfl (FX (u.ext c)) rfl
  ·rintro d c _ rfl;refine CD.call AB rfl rfl rfl (BN d _ _ (o.ext c) oo) ?_;rintro v m ⟨rfl,rfl,_⟩;exact⟨Ac.refl _,rfl⟩
  ·exact fun d c=>oP
  ·rintro d c _ rfl;exact CD.run rfl rfl rfl rfl (FX (z.ext c)) rfl
  ·rintro d c _ rfl;refine CD.call AB rfl rfl rfl (BN d _ _ (k3.ext c) oo) ?_;rintro v m ⟨rfl,rfl,_⟩;exact⟨Ac.refl _,rfl⟩
  ·rintro d c _ rfl _ rfl;refine CD.call Qg rfl rfl rfl (Zi d _ _ _ _ (KP.trimmed (_neg:=na) (o.ext c)) (KP.trimmed (_neg:=nb) (k3.ext c)) oo oo) ?_;rintro v m ⟨l,hv⟩;rw[Al,Al]at hv;exact⟨l,hv.mono BI⟩
  ·rintro d c _ rfl b f;refine CD.call BO rfl rfl rfl (GQ d _ b _ f oo) ?_;rintro v m ⟨l,hv⟩;rw[A4u]at hv;exact⟨l,hv⟩
 intro d c Q _ R _ S _ T _ U _ J _ K _ L _ M _ N _ O _ b _ P i _;refine Af.aJ rfl rfl (B.ext c) rfl i (e.trans c) (a.trans g).size ?_;intro w' D C fin;refine Nv ?_;exact fin _ _ rfl ⟨D,C⟩
theorem A39 (w:World) (x y:Value) (na nb:Bool) (xs ys:List Nat) (h:KP w x na xs) (k:KP w y nb ys) (I:xs.length<=10000000) (E:ys.length<=10000000) :
  Calls prog 120 #[x,y] w (AJ fun r w'=>Ac w w'/\Ub w' r ((Nat.gcd (Ah xs) (Ah ys):Nat):Int)):=by
 obtain⟨p,cap,rfl,u⟩:=h;obtain⟨q,cb,rfl,ks⟩:=k;refine cS func120 ntmps120 ?_;refine Nv ?_;refine .s (oB) ?_;rintro _ w1 ⟨rfl,f,z,_⟩;refine .s (oB) ?_;rintro _ w2 ⟨rfl,i,g,_⟩;refine .s (oA) ?_;rintro _ w3 ⟨rfl,n,j,_⟩;have e:=(z.trans g).trans j;have o:=u.ext e;have k3:=ks.ext e;have A:=(f.ext g).ext j;have B:=i.ext j;have F:=Ap xs u.2;have G:=Ap ys ks.2;have H:(Ae (Nat.gcd (Ah xs) (Ah ys))).length<=10000000:=by
  rcases Gu (Ah xs) with h0 | h0
  ·rw[h0,Nat.gcd_zero_left];omega
  ·exact Ar (AA _ _ (Nat.gcd_le_left _ h0)) oo
 refine Nv ?_;refine sD 8 [(5,Is (.pointer (some ⟨w.heap.size,1,none⟩))),(6,Is (.slice p xs.length cap)),(7,Is (.slice p (Ae (Ah xs)).length cap)),(8,Is (.pointer (some ⟨w1.heap.size,1,none⟩))),(9,Is (.slice q ys.length cb)),(10,Is (.slice q (Ae (Ah ys)).length cb)),(11,fun v w'=>Ei 0 w' v (Ae (Nat.gcd (Ah xs) (Ah ys)))),(12,fun v w'=>Ub w' v ((Nat.gcd (Ah xs) (Ah ys):Nat):Int))] ?_ ?_
 ·refine⟨?_,?_,?_,?_,?_,?_,?_,?_,trivial⟩
  ·exact fun d c=>oP
  ·rintro d c _ rfl;exact CD.run rfl rfl rfl rfl (FX (A.ext c)) rfl
  ·rintro d c _ rfl;refine CD.call AB rfl rfl rfl (BN d _ _ (o.ext c) oo) ?_;rintro v m ⟨rfl,rfl,_⟩;exact⟨Ac.refl _,rfl⟩
  ·exact fun d c=>oP
  ·rintro d c _ rfl;exact CD.run rfl rfl rfl rfl (FX (B.ext c)) rfl
  ·rintro d c _ rfl;refine CD.call AB rfl rfl rfl (BN d _ _ (k3.ext c) oo) ?_;rintro v m ⟨rfl,rfl,_⟩;exact⟨Ac.refl _,rfl⟩
  ·rintro d c _ rfl _ rfl;refine CD.call Qm rfl rfl rfl (Zn d _ _ _ _ (KP.trimmed (_neg:=na) (o.ext c)) (KP.trimmed (_neg:=nb) (k3.ext c)) oo oo) ?_;rintro v m ⟨l,hv⟩;exact⟨l,hv.mono BI⟩
  ·rintro d c t a;refine CD.call BO rfl rfl rfl (GQ d false t _ a oo) ?_;rintro v m ⟨l,hv⟩;exact⟨l,hv⟩
 intro d c L _ M _ N _ O _ P _ J _ t _ K b _;refine Af.aJ rfl rfl (n.ext c) rfl b (e.trans c) (z.trans g).size ?_;intro w' D C fin;refine Nv ?_;exact fin _ _ rfl ⟨D,C⟩
theorem K2 {w:World}{p:Option Addr}{cap:Nat}{xs:List Nat}(c:Sl w (.slice p xs.length cap) xs):Sl w (.slice p (Ae (Ah xs)).length cap) (Ae (Ah xs)):=KP.trimmed (_neg:=true) c
theorem RD (w:World) (p:Option Addr) (cap:Nat) (xs:List Nat) (h:Sl w (.slice p xs.length cap) xs) (c:xs.length<=1000000000) :
  Calls prog 69 #[.slice p xs.length cap] w (AJ fun r w'=>Ac w w'/\r=.slice p (Ae (Ah xs)).length cap):=by refine (BN w _ xs h c).mono ?_;rintro _ _ ⟨r,rfl,rfl,rfl,_⟩;exact⟨_,rfl,Ac.refl _,rfl⟩
theorem Pr {base:Nat}(w:World) (v:Value) (xs:List Nat) (h:Sl w v xs) (d:xs.length<=1000000000) (c:base<=w.heap.size) :
  Calls prog 72 #[v] w (AJ fun r w'=>Ac w w'/\Ei base w' r xs):=by refine (M3 w v xs h d).mono ?_;rintro _ _ ⟨r,rfl,e,hv⟩;exact⟨_,rfl,e,hv.mono c⟩
theorem A4w (w:World) (x:Value) (na:Bool) (xs:List Nat) (h:KP w x na xs) (z:xs.length<=10000000) :
  Calls prog 121 #[x] w (AJ fun r w'=>Ac w w'/\Ub w' r (- sg na (Ah xs))):=by obtain⟨p,cap,rfl,l⟩:=h;refine cS func121 ntmps121 ?_;refine Nv ?_;refine .s (oB) ?_;rintro _ w1 ⟨rfl,u,m,a⟩;refine .s (oA) ?_;rintro _ w2 ⟨rfl,v,t,b⟩;have y:=Ap xs l.2;refine Nv ?_;refine sF 8 ?_;refine .q ?_;refine FL.load (L:=[]) A8 rfl rfl rfl rfl rfl rfl EC sm rfl ?_;refine .q ?_;refine FL.load (L:=[]) A8 rfl rfl rfl rfl rfl rfl EC sm rfl ?_;refine FL.aY AB rfl rfl rfl (fun c d=>cM (RD c _ _ _ EC oo)) ?_;refine FL.au Bu rfl rfl rfl (fun c d=>cM (Pr c _ _ (K2 EC) oo BI)) (Am.slO 0 _) ?_;refine FL.au BO rfl rfl rfl (fun c d g j=>cM (GQ c _ g _ j oo)) (Am.aF 0 _) ?_;refine FL.aG rfl ?_;intro c d f e g _ _ _;rw[A12]at e;refine Af.aJ rfl rfl EC rfl e (w0:=w) EC m.size ?_;intro w' o k fin;refine Nv ?_;exact fin _ _ rfl ⟨o,k⟩
theorem UV (w:World) (x:Value) (na:Bool) (xs:List Nat) (h:KP w x na xs) (t:xs.length<=10000000) :
  Calls prog 38 #[x] w (AJ fun r w'=>Ac w w'/\Ao w.heap.size w' r (sg na (Ah xs))):=by obtain⟨p,cap,rfl,m⟩:=h;refine cS func38 ntmps38 ?_;refine Nv ?_;refine .s (oB) ?_;rintro _ w1 ⟨rfl,v,e,a⟩;refine .s (oA) ?_;rintro _ w2 ⟨rfl,y,o,b⟩;have z:=Ap xs m.2;refine Nv ?_;refine sF 7 ?_;refine .q ?_;refine FL.load (L:=[]) A8 rfl rfl rfl rfl rfl rfl EC sm rfl ?_;refine .q ?_;refine FL.load (L:=[]) A8 rfl rfl rfl rfl rfl rfl EC sm rfl ?_;refine FL.aY AB rfl rfl rfl (fun c d=>cM (RD c _ _ _ EC oo)) ?_;refine FL.au Bu rfl rfl rfl (fun c d=>cM (Pr c _ _ (K2 EC) oo (Ar ((e.trans o).trans d).size AO))) (Am.slO w.heap.size _) ?_;refine FL.au BO rfl rfl rfl (fun c d g k=>cM (GP c _ g _ k oo)) (Am.aF w.heap.size _) ?_;refine FL.aG rfl ?_;intro c d f j g _ _ _;refine Af.aJ rfl rfl EC rfl j (w0:=w) EC e.size ?_;intro w' u l fin;refine Nv ?_;exact fin _ _ rfl ⟨u,l⟩
def A8V (w:World) (r:Value) (a:Int):Prop :=
 (a<0->r=.tuple #[FM false (.slice none 0 0),.bool false])/\(0<=a->∃ v x,r=.tuple #[v,.bool true]/\EW a.natAbs x/\Ub w v (x:Int))
def HK (a b:Int):Int:=if a<b then -1 else if b<a then 1 else 0
theorem WR (na nb:Bool) (m k:Nat) (h:AH (sg na m)=AH (sg nb k)):AH (sg na m) * GY m k=HK (sg na m) (sg nb k):=by rw[Nf,Nf]at h;rw[Nf];unfold GY HK sg;by_cases d:m=0 <;> by_cases c:k=0 <;> cases na <;> cases nb <;> simp[d,c]at h ⊢ <;> (repeat' split) <;> omega
theorem A2h (a b:Int) (h:AH a<AH b):HK a b=-1:=by unfold AH at h;unfold HK;rw[if_pos];revert h;split <;> split <;> (try split) <;> intro h <;> omega
theorem A2i (a b:Int) (h:AH b<AH a):HK a b=1:=by
 unfold AH at h;unfold HK;have:b<a:=by revert h;split <;> split <;> (try split) <;> intro h <;> omega
 rw[if_neg oo,if_pos this]
theorem FN (a:Int):-1<=AH a/\AH a<=1:=by
 unfold AH;split
 ·omega
 ·split <;> omega
theorem UW (m k:Nat):-1<=GY m k/\GY m k<=1:=by
 unfold GY;split
 ·omega
 ·split <;> omega
theorem WS {a b:Int}(c:-1<=a/\a<=1) (d:-1<=b/\b<=1):-1<=a * b/\a * b<=1:=by
 have:a=-1\/a=0\/a=1:=by omega
 rcases this with rfl | rfl | rfl <;> omega
theorem A3a (w:World) (x y:Value) (na nb:Bool) (xs ys:List Nat) (h:KP w x na xs) (k:KP w y nb ys) (N:xs.length<=10000000) (K:ys.length<=10000000) :
  Calls prog 36 #[x,y] w (AJ fun r w'=>Ac w w'/\r=.int .i64 (HK (sg na (Ah xs)) (sg nb (Ah ys)))):=by
 have i:=h;have J:=k;obtain⟨p,cap,rfl,a⟩:=h;obtain⟨q,cb,rfl,ks⟩:=k;refine cS func36 ntmps36 ?_;refine Nv ?_;refine .s (oB) ?_;rintro _ w1 ⟨rfl,n,H,_⟩;refine .s (oB) ?_;rintro _ w2 ⟨rfl,o,b,_⟩;have l:=H.trans b;have u:=n.ext b;have L:=Ap xs a.2;have M:=Ap ys ks.2;have G:=FN (sg na (Ah xs));have P:=FN (sg nb (Ah ys));refine .r rfl ?_;refine Nv ?_;refine sD 4 [(7,Is (FM na (.slice p xs.length cap))),(8,Is (.int .i64 (AH (sg na (Ah xs))))),(9,Is (FM nb (.slice q ys.length cb))),(10,Is (.int .i64 (AH (sg nb (Ah ys)))))] ?_ ?_
 ·refine⟨?_,?_,?_,?_,trivial⟩
  ·exact fun g e=>CD.run rfl rfl rfl rfl (A0.bB rfl (u.ext e) rfl rfl) rfl
  ·rintro g e _ rfl;refine oC CF (RB g _ na xs (i.ext (l.trans e)) oo) ?_;rintro v d ⟨c,rfl⟩;exact⟨c,rfl⟩
  ·exact fun g e=>CD.run rfl rfl rfl rfl (A0.bB rfl (o.ext e) rfl rfl) rfl
  ·rintro g e _ rfl;refine oC CF (RB g _ nb ys (J.ext (l.trans e)) oo) ?_;rintro v d ⟨c,rfl⟩;exact⟨c,rfl⟩
 rintro g e _ rfl _ rfl _ rfl _ rfl _;have j:=l.trans e;have A:=u.ext e;have B:=o.ext e;have m:=a.ext j;have k4:=ks.ext j;refine A7 ?_;by_cases t:AH (sg na (Ah xs))<AH (sg nb (Ah ys))
 ·refine St.aD rfl (by simpa using t) ?_;refine A7 ?_;exact uR ⟨j,by rw[A2h _ _ t]⟩
 refine St.ay rfl (by simp;omega) ?_;refine A7 ?_;by_cases z:AH (sg nb (Ah ys))<AH (sg na (Ah xs))
 ·refine St.aD rfl (by simpa using z) ?_;refine A7 ?_;exact uR ⟨j,by rw[A2i _ _ z]⟩
 refine St.ay rfl (by simp;omega) ?_;have E:AH (sg na (Ah xs))=AH (sg nb (Ah ys)):=by omega
 have F:=WR na nb (Ah xs) (Ah ys) E;have C:=UW (Ah xs) (Ah ys);have O:=WS G C;rw[<- F];generalize AH (sg na (Ah xs))=sv at *
 generalize D:GY (Ah xs) (Ah ys)=cv at *
 refine Nv ?_;refine St.sub (E':=[(2,.pointer (some ⟨w.heap.size,0,none⟩)),(3,.pointer (some ⟨w1.heap.size,0,none⟩)),(5,.int .i64 sv)]) ?_ ⟨rfl,rfl,rfl,trivial⟩;refine sD 9 [(19,Is (.int .i64 sv)),(20,Is (.pointer (some ⟨w.heap.size,1,none⟩))),(21,Is (.slice p xs.length cap)),(22,Is (.slice p (Ae (Ah xs)).length cap)),(23,Is (.pointer (some ⟨w1.heap.size,1,none⟩))),(24,Is (.slice q ys.length cb)),(25,Is (.slice q (Ae (Ah ys)).length cb)),(26,Is (.int .i64 cv)),(27,Is (.int .i64 (sv * cv)))] ?_ ?_
 ·refine⟨?_,?_,?_,?_,?_,?_,?_,?_,?_,trivial⟩
  ·exact fun d c=>oP
  ·exact fun d c=>oP
  ·rintro d c _ rfl;exact CD.run rfl rfl rfl rfl (FX (A.ext c)) rfl
  ·rintro d c _ rfl;refine oC AB (BN d _ _ (m.ext c) oo) ?_;rintro v f ⟨rfl,rfl,_⟩;exact⟨Ac.refl _,rfl⟩
  ·exact fun d c=>oP
  ·rintro d c _ rfl;exact CD.run rfl rfl rfl rfl (FX (B.ext c)) rfl
  ·rintro d c _ rfl;refine oC AB (BN d _ _ (k4.ext c) oo) ?_;rintro v f ⟨rfl,rfl,_⟩;exact⟨Ac.refl _,rfl⟩
  ·rintro d c _ rfl _ rfl;refine oC Fp (Jd d _ _ _ _ (K2 (m.ext c)) (K2 (k4.ext c)) oo oo) ?_;rintro v f ⟨I,rfl⟩;exact⟨I,by rw[D];rfl⟩
  ·rintro d c _ rfl _ rfl;exact CD.pure A8 rfl rfl rfl rfl rfl (by rw[Ab oo oo];rfl)
 rintro d c Q _ R _ S _ T _ U _ V _ W _ X _ _ rfl _;refine A7 ?_;exact Ad.ax rfl rfl ⟨j.trans c,rfl⟩
theorem XR {a b q r:Int}(h:a=b * q+r) (d:0<=r) (k:r<b.natAbs) (e:b≠0):a / b=q/\a % b=r:=by
 rcases Int.lt_or_gt_of_ne e with hneg | hpos
 ·obtain⟨c,rfl⟩:∃ c,b=-c:=⟨-b,by omega⟩;have g:0<c:=by omega
  have j:((-c).natAbs:Int)=c:=by omega
  have key:=(Int.ediv_emod_unique (a:=a) (b:=c) (r:=r) (q:=-q) g).2 ⟨by rw[h,Jv,Ju];omega,d,by omega⟩;constructor
  ·rw[TV,key.1];omega
  ·rw[Int.emod_neg];exact key.2
 ·have j:(b.natAbs:Int)=b:=by omega
  exact (Int.ediv_emod_unique (a:=a) (b:=b) (r:=r) (q:=q) hpos).2 ⟨by omega,d,by omega⟩
def A4x (base:Nat) (w:World) (r:Value) (a b:Int):Prop :=
 (b=0->r=.tuple #[FM false (.slice none 0 0),FM false (.slice none 0 0),.bool false])/\(b≠0->∃ q m,r=.tuple #[q,m,.bool true]/\Ao base w q (a / b)/\Ao base w m (a % b))
theorem A2j (na nb:Bool) (m k:Nat) (g:k≠0) :
  ((na=true/\m % k≠0)->sg na m / sg nb k=sg (!nb) (m / k+1)/\sg na m % sg nb k=((k - m % k:Nat):Int)) /\
  ((na=true/\m % k=0)->sg na m / sg nb k=sg (!nb) (m / k)/\sg na m % sg nb k=((m % k:Nat):Int)) /\
  (na=false->sg na m / sg nb k=sg nb (m / k)/\sg na m % sg nb k=((m % k:Nat):Int)):=by
 have j:=Ho m k;have l:=CX m (LM g);have d:sg nb k≠0:=by cases nb <;> simp[sg] <;> omega
 have c:(sg nb k).natAbs=k:=Gf nb k;have o:(k:Int) * ((m / k:Nat):Int)+((m % k:Nat):Int)=m:=by exact_mod_cast j
 generalize m / k=q at *
 generalize m % k=r at *
 refine⟨?_,?_,?_⟩
 ·rintro⟨rfl,e⟩;refine XR ?_ oo (by rw[c];omega) d;rw[Int.ofNat_sub oo];cases nb <;> simp only[sg,PX,Bool.not_false,if_true,if_false,Hg,Ju,Jv,TW,LQ] <;> omega
 ·rintro⟨rfl,e⟩;refine XR ?_ oo (by rw[c];omega) d;subst e;cases nb <;> simp only[sg,PX,Bool.not_false,if_true,if_false,Hg,Ju,Jv] <;> omega
 ·rintro rfl;refine XR ?_ oo (by rw[c];omega) d;cases nb <;> simp only[sg,if_true,if_false,Hg,Ju,Jv,Int.neg_neg] <;> omega
theorem A7V {base b:Nat}{w:World}(c:Aj 109 w b [.int .u32 1]) (d:base<=b):Ei base w (.slice (some ⟨b,0,none⟩) 1 1) [1] :=
 Ei.closed (D:=[]) c (by intro x e;simp at e;omega) rfl d rfl de
theorem Zt (w:World) (x y:Value) (na nb:Bool) (xs ys:List Nat) (h:KP w x na xs) (k:KP w y nb ys) (kf:xs.length<=9000000) (hl:ys.length<=9000000) :
  Calls prog 122 #[x,y] w (AJ fun r w'=>Ac w w'/\A4x w.heap.size w' r (sg na (Ah xs)) (sg nb (Ah ys))):=by
 obtain⟨p,cap,rfl,X⟩:=h;obtain⟨q,cb,rfl,ks⟩:=k;refine cS func122 ntmps122 ?_;refine Nv ?_;refine .s (oB) ?_;rintro _ w1 ⟨rfl,he,h5,kk⟩;refine .s (oB) ?_;rintro _ w2 ⟨rfl,hf,hd,kl⟩;refine .s (oA) ?_;rintro _ w3 ⟨rfl,hg,H,km⟩;refine .s (oA) ?_;rintro _ v ⟨rfl,M,z,kn⟩;have d:=((h5.trans hd).trans H).trans z;have h4:=X.ext d;have k4:=ks.ext d;have N:=((he.ext hd).ext H).ext z;have O:=(hf.ext H).ext z;have P:=hg.ext z;have kb:=Ap xs X.2;have kc:=Ap ys ks.2;refine A7 ?_;refine .p (FX O) ?_;refine .s (oK AB (BN v _ _ k4 oo)) ?_;rintro _ v ⟨rfl,rfl,kt⟩;refine A7 ?_;by_cases j:Ah ys=0
 ·refine St.aD rfl (by rw[j];rfl) ?_;refine A7 ?_;refine .p (rB) ?_;refine .p (rB) ?_;refine Af.step0 rfl rfl (Av.store A8 (vs:=[.bool false,.slice none 0 0]) rfl rfl rfl rfl rfl P AO (by simp[Value.oneCell'])) ?_;rintro _ w5 ⟨hh,Y⟩;refine Af.step0 rfl rfl (Av.store A8 (vs:=[.bool false,.slice none 0 0]) rfl rfl rfl rfl rfl (M.upd Y oo) AO (by simp[Value.oneCell'])) ?_;rintro _ f ⟨n,Z⟩;have hi:=hh.upd Z oo;refine A7 ?_;exact Ad.aC A8 [FM false (.slice none 0 0),FM false (.slice none 0 0),.bool false] rfl ⟨⟨_,_,_,_,rfl,hi,rfl,rfl,rfl,rfl⟩,⟨_,_,_,_,rfl,n,rfl,rfl,rfl,rfl⟩,rfl,trivial⟩
   ⟨(d.aj Y oo).aj Z oo,fun _=>rfl,fun c=>absurd (by rw[j];cases nb <;> rfl) c⟩
 have hr:sg nb (Ah ys)≠0:=by cases nb <;> simp[sg] <;> omega
 refine St.ay rfl (by simp[CQ,j]) ?_;refine A7 ?_;refine .p (FX N) ?_;refine .s (oK AB (BN v _ _ h4 oo)) ?_;rintro _ v ⟨rfl,rfl,ht⟩;refine .r rfl ?_;refine .s (oK Kq (Sw v _ _ (Ah xs) (Ah ys) ht kt oo oo j)) ?_;rintro _ w5 ⟨e,qv,rv,rfl,Q,D⟩;have hc:=d.trans e;have A:=N.ext e;have hm:=O.ext e;refine A7 ?_;refine .p (FX hm) ?_;refine .r rfl ?_;have l:=A2j na nb (Ah xs) (Ah ys) j;have ki:(Ae (Ah xs / Ah ys)).length<=9000000:=Ar (AA _ _ (EN _ _)) oo;have kj:(Ae (Ah xs % Ah ys)).length<=9000000:=Ar (AA _ _ (NU _ _)) oo;have h1:=CX (Ah xs) (LM j);refine Af.nil (Ad.ak (St.cut (fun g:(Value×Value)×Bool×Nat×Nat=>[(4,.pointer (some ⟨w2.heap.size,0,none⟩)),(5,.pointer (some ⟨w3.heap.size,0,none⟩)),(8,g.1.1),(9,g.1.2),(10,.bool g.2.1)])
  (fun g w'=>Ac v w'/\Ei w.heap.size w' g.1.1 (Ae g.2.2.1)/\Ei w.heap.size w' g.1.2 (Ae g.2.2.2)/\(Ae g.2.2.1).length<=10000000/\(Ae g.2.2.2).length<=10000000/\sg na (Ah xs) / sg nb (Ah ys)=sg g.2.1 g.2.2.1/\sg na (Ah xs) % sg nb (Ah ys)=(g.2.2.2:Int)) ?_ ?_))
 ·have R:=Q.mono d.size;have U:=D.mono d.size;refine Nv ?_;refine .r rfl ?_;refine .p (FX A) ?_;obtain⟨rp,rc,rfl,_⟩:=D.sl.form;cases na with
  | true =>
   by_cases m:Ah xs % Ah ys=0
   ·refine .a 5 (.bool false) rfl (A9 (by rw[m];decide)) ?_;refine A7 ?_;refine .cf ?_;refine .p (FX A) ?_;refine A7 ?_;refine .ct ?_;refine Ad.met ((qv,.slice rp _ rc),!nb,Ah xs / Ah ys,Ah xs % Ah ys) ⟨rfl,rfl,rfl,rfl,rfl,trivial⟩ ⟨e,R,U,by dsimp only;omega,by dsimp only;omega,?_,?_⟩
    ·exact (l.2.1 ⟨rfl,m⟩).1
    ·exact (l.2.1 ⟨rfl,m⟩).2
   ·have kh:0<(Ae (Ah xs % Ah ys)).length:=by
     rcases Gu (Ae (Ah xs % Ah ys)).length with c | c
     ·exact absurd (CQ.1 (FA c)) m
     ·exact c
    refine .a 5 (.bool true) rfl (Aa oo) ?_;refine A7 ?_;refine .ct ?_;refine .s (Av.single A8 rfl rfl rfl rfl) ?_;rintro _ f ⟨rfl,n,o,ko⟩;have hz:=A7V n AO;refine .s (oK Kr (Sv f _ _ _ _ (Q.ext o).sl hz.sl oo de)) ?_;rintro q6 i ⟨b,T⟩;have e1:Ah [1]=1:=rfl;rw[Al,e1]at T;refine A7 ?_;have hy:=AA _ _ (NQ h1);have t:=o.trans b;refine .s (oK Hy (N0 i _ _ _ _ (kt.ext (e.trans t)) (D.ext t).sl oo oo hy (by rw[Al,Al];omega))) ?_;rintro r7 w8 ⟨u,W⟩;rw[Al,Al]at W;have kd:=FY (Ah xs / Ah ys) 1;have kg:(Ae 1).length<=2:=Db de;have ke:=AA (Ah ys - Ah xs % Ah ys) (Ah ys) (Nat.sub_le _ _);have h3:Ac w i:=hc.trans t;refine A7 ?_;refine Ad.met ((q6,r7),!nb,Ah xs / Ah ys+1,Ah ys - Ah xs % Ah ys) ⟨rfl,rfl,rfl,rfl,rfl,trivial⟩ ⟨e.trans (t.trans u),(T.ext u).mono (hc.trans o).size,W.mono h3.size,by dsimp only;omega,by dsimp only;omega,?_,?_⟩
    ·exact (l.1 ⟨rfl,m⟩).1
    ·exact (l.1 ⟨rfl,m⟩).2
  | false =>
   refine A7 ?_;refine .cf ?_;refine .p (FX A) ?_;refine A7 ?_;refine .cf ?_;refine Ad.met ((qv,.slice rp _ rc),nb,Ah xs / Ah ys,Ah xs % Ah ys) ⟨rfl,rfl,rfl,rfl,rfl,trivial⟩ ⟨e,R,U,by dsimp only;omega,by dsimp only;omega,?_,?_⟩
   ·exact (l.2.2 rfl).1
   ·exact (l.2.2 rfl).2
 rintro⟨⟨h8,h9⟩,nq,mq,J⟩ f ⟨o,S,V,hw,hx,K,L⟩;dsimp only at o S V hw hx K L ⊢;refine A7 ?_;refine .s (oK BO (GP f nq h8 mq S oo)) ?_;rintro v7 i ⟨b,G⟩;rw[<- K]at G;refine .r rfl ?_;refine .s (oK BO (GP i false h9 J (V.ext b) oo)) ?_;rintro v8 w8 ⟨u,ha⟩;have e8:sg false J=(J:Int):=rfl;rw[e8,<- L]at ha;have I:=(o.trans b).trans u;have B:=P.ext I;have ho:=M.ext I;refine Af.bQ rfl rfl B rfl (G.ext u) (d.trans I) oo ?_;intro w9 cs hp hu hj E h6;have C:=ho.upd E oo;have h2:=Ao.upd (G.ext u) E ⟨_,B⟩;have hb:=Ao.upd ha E ⟨_,B⟩;refine Af.bQ rfl rfl C rfl hb h6 oo ?_;intro wA ka hq hv hk F h7;have hn:=hj.upd F oo;refine A7 ?_;exact Ad.aC A8 [v7,v8,.bool true] rfl ⟨⟨_,_,_,_,rfl,hn,rfl,rfl,hu,hp⟩,⟨_,_,_,_,rfl,hk,rfl,rfl,hv,hq⟩,rfl,trivial⟩
  ⟨h7,fun c=>absurd c hr,fun _=>⟨v7,v8,rfl,Ao.upd h2 F ⟨_,C⟩,Ao.upd hb F ⟨_,C⟩⟩⟩
variable {i j:Nat}{D:List Value}{y:Value}
def Zu (cs D:List Value) (i:Nat) (C:List Value):Prop :=
 C.length=(cs++D).length/\(∀ t,cs.length<=t->C[t]?=(cs++D)[t]?)/\∀ t,t<cs.length->C[t]?=if t<i\/cs.length - 1 - i<t then cs[cs.length - 1 - t]? else cs[t]?
theorem A13 (cs D:List Value):Zu cs D 0 (cs++D):=by refine⟨rfl,fun _ _=>rfl,fun t c=>?_⟩;rw[if_neg oo,BM c]
theorem A14 (h:Zu cs D i C) (k:cs.length<=2 * i+1):C=cs.reverse++D:=by
 obtain⟨j,e,g⟩:=h;apply Fk;intro t;by_cases c:t<cs.length
 ·rw[g t c,BM (by simpa using c),List.getElem?_reverse c];by_cases d:t<i\/cs.length - 1 - i<t
  ·rw[if_pos d]
  ·rw[if_neg d];have:cs.length - 1 - t=t:=by omega
   rw[this]
 ·rw[e t oo,Es oo,Es (by simp;omega)];simp
theorem UX {x:Value}(h:Zu cs D i C) (o:j=cs.length - 1 - i) (r:i<j) (q:cs[i]?=some x) (k:cs[j]?=some y):Zu cs D (i+1) ((C.set i y).set j x):=by
 obtain⟨d,l,m⟩:=h;have u:j<cs.length:=(Au.1 k).1;have v:cs.length<=C.length:=by rw[d];simp
 refine⟨by simpa using d,?_,?_⟩
 ·intro t c;rw[Ce oo,Ce oo];exact l t c
 ·intro t c;by_cases e1:t=j
  ·subst e1;rw[Bx (by simp;omega),if_pos (.inr oo),show cs.length - 1 - t=i from by omega,q]
  ·rw[Ce (fun e=>e1 e.symm)];by_cases e2:t=i
   ·subst e2;rw[Bx oo,if_pos (.inl oo),<- o,k]
   ·rw[Ce (fun e=>e2 e.symm),m t c];by_cases g:t<i\/cs.length - 1 - i<t
    ·rw[if_pos g,if_pos oo]
    ·rw[if_neg g,if_neg oo]
theorem XS (w:World) (b cap:Nat) (cs D:List Value) (E:Aj 5 w b (cs++D)) (A:∀ c ∈ cs,c.cells=#[c]/\c.oneCell'=true) (L:cs.length<=1000000000) :
  Calls prog 78 #[.slice (some ⟨b,0,none⟩) cs.length cap] w (AJ fun _ w'=>CE b w w'/\Aj 5 w' b (cs.reverse++D)):=by
 refine Sj (args:=[_]) func78 rfl ntmps78 rfl ?_;refine A7 ?_;refine St.loop (fun i:Nat=>[(0,.slice (some ⟨b,0,none⟩) cs.length cap),(2,.int .i64 i),(3,.int .i64 ((cs.length:Int) - 1 - i))])
  (fun i w2=>CE b w w2/\i<=cs.length/\∃ C,Aj 5 w2 b C/\Zu cs D i C)
  (fun i=>cs.length - i) 0 ⟨rfl,rfl,?_,trivial⟩ ⟨CE.refl _ _,by omega,_,E,A13 cs D⟩ ?_
 ·show some (Value.int .i64 (IntKind.i64.wrap ((cs.length:Int) - 1)))=_;rw[Ab oo oo];simp
 rintro i w2 ⟨p,K,C,f,d⟩;by_cases M:2 * i+1<cs.length
 ·have k:cs[i]?=some cs[i]:=by simp
  have n:cs.length - 1 - i<cs.length:=by omega
  have g:cs[cs.length - 1 - i]?=some cs[cs.length - 1 - i]:=by simp
  generalize cs[i]=x at k;generalize cs[cs.length - 1 - i]=y at g;obtain⟨j,r⟩:∃ j,j=cs.length - 1 - i:=⟨_,rfl⟩;rw[<- r]at g n;have F:(cs.length:Int) - 1 - i=(j:Int):=by omega
  rw[F];have I:cs.length<=C.length:=by rw[d.1];simp
  have z:C[i]?=some x:=by rw[d.2.2 i oo,if_neg oo];exact k
  have t:C[j]?=some y:=by rw[d.2.2 j n,if_neg oo];exact g
  have l:=A x (Bi k);have m:=A y (Bi g);refine Nv ?_;refine .a 3 (.bool true) rfl (Aa oo) ?_;refine A7 ?_;refine .cT ?_;refine Nv ?_;refine St.any Dv rfl ?_;intro w3 B _ J;have e:=f.ext B;have s:CE b w w3:=p.trans (B.upd b);refine WA.takes (fuel:=8) A8 kr (fun _ _ _ _ _ h=>h) [0,1,2,3,4,5,8,9] kr rfl ?_;refine WA.take 6 rfl rfl kr kr kr (fun _ _ _ h=>h) rfl rfl (fun w=>A0.ia) ?_;refine WA.take 10 rfl rfl kr kr kr (fun _ _ _ h=>h) rfl rfl (fun w=>A0.ia) ?_;simp only[Cj,Ak,AE];refine WA.two (i:=7) (j:=11) kr ?_ ?_
  ·refine Ed.val rfl rfl rfl rfl (A0.load A8 rfl rfl rfl (e.cell t)).op ?_;rintro _ _ ⟨rfl,rfl⟩;refine WA.one (i:=11) kr (Ed.val rfl rfl rfl rfl (A0.load A8 rfl rfl rfl (e.cell z)).op ?_);rintro _ _ ⟨rfl,rfl⟩;refine WA.one (i:=12) kr (Ed.val rfl rfl rfl rfl (A0.ia).op ?_);rintro _ _ ⟨rfl,rfl⟩;simp only[Cj,Ak,AE];refine WA.one (i:=13) kr (Ed.eff rfl rfl rfl (Av.store A8 (vs:=[y]) rfl rfl rfl (by rw[m.1]) rfl e (by simp;omega) (by simpa using m.2)) ?_);rintro _ G ⟨o,u⟩;refine WA.one (i:=14) kr (Ed.val rfl rfl rfl rfl (A0.ia).op ?_);rintro _ _ ⟨rfl,rfl⟩;simp only[Cj,Ak,AE];refine WA.one (i:=15) kr (Ed.eff rfl rfl rfl (Av.store A8 (vs:=[x]) rfl rfl rfl (by rw[l.1]) rfl o (by simp[Fl];omega) (by simpa using l.2)) ?_);rintro _ H ⟨q,v⟩;refine WA.done kr ?_;refine A7 ?_;refine Ad.again (i+1) ⟨rfl,?_,?_,trivial⟩ ⟨(s.trans u).trans v,by omega,_,q,UX d r oo k g⟩ oo
   ·show some (Value.int .i64 (IntKind.i64.wrap ((i:Int)+1)))=_;rw[Ab oo oo];rfl
   ·show some (Value.int .i64 (IntKind.i64.wrap ((j:Int) - 1)))=_;rw[Ab oo oo];congr 2;omega
  ·refine Ed.val rfl rfl rfl rfl (A0.load A8 rfl rfl rfl (e.cell z)).op ?_;rintro _ _ ⟨rfl,rfl⟩;refine WA.one (i:=7) kr (Ed.val rfl rfl rfl rfl (A0.load A8 rfl rfl rfl (e.cell t)).op ?_);rintro _ _ ⟨rfl,rfl⟩;refine WA.one (i:=12) kr (Ed.val rfl rfl rfl rfl (A0.ia).op ?_);rintro _ _ ⟨rfl,rfl⟩;simp only[Cj,Ak,AE];refine WA.one (i:=13) kr (Ed.eff rfl rfl rfl (Av.store A8 (vs:=[y]) rfl rfl rfl (by rw[m.1]) rfl e (by simp;omega) (by simpa using m.2)) ?_);rintro _ G ⟨o,u⟩;refine WA.one (i:=14) kr (Ed.val rfl rfl rfl rfl (A0.ia).op ?_);rintro _ _ ⟨rfl,rfl⟩;simp only[Cj,Ak,AE];refine WA.one (i:=15) kr (Ed.eff rfl rfl rfl (Av.store A8 (vs:=[x]) rfl rfl rfl (by rw[l.1]) rfl o (by simp[Fl];omega) (by simpa using l.2)) ?_);rintro _ H ⟨q,v⟩;refine WA.done kr ?_;refine A7 ?_;refine Ad.again (i+1) ⟨rfl,?_,?_,trivial⟩ ⟨(s.trans u).trans v,by omega,_,q,UX d r oo k g⟩ oo
   ·show some (Value.int .i64 (IntKind.i64.wrap ((i:Int)+1)))=_;rw[Ab oo oo];rfl
   ·show some (Value.int .i64 (IntKind.i64.wrap ((j:Int) - 1)))=_;rw[Ab oo oo];congr 2;omega
 ·refine Nv ?_;refine .a 3 (.bool false) rfl (A9 oo) ?_;refine A7 ?_;refine .cF ?_;refine Nv ?_;refine Ad.none0 rfl ⟨p,?_⟩;rw[<- A14 d oo];exact f
end Go.Qf
namespace Go.Qf
def pad:Nat->Nat->List Nat
 | 0,_=>[]
 | k+1,n=>(48+n % 10)::pad k (n / 10)
theorem GF:∀ k n,(pad k n).length=k:=by
 intro k;induction k with
 | zero=>intro n;rfl
 | succ k ih=>intro n;simp[pad,ih]
theorem UY:∀ k n,pad (k+1) n=pad k n++[48+n / 10 ^ k % 10]:=by
 intro k;induction k with
 | zero=>intro n;simp[pad]
 | succ k ih =>
  intro n;have h:=ih (n / 10);rw[show pad (k+1+1) n=(48+n % 10)::pad (k+1) (n / 10) from rfl,h];rw[LR,show 10 * 10 ^ k=10 ^ (k+1) from by rw[Ck,AQ]];rfl
def OX:Nat->Nat->List Nat
 | 0,_=>[]
 | f+1,n=>if n=0 then [] else (48+n % 10)::OX f (n / 10)
def Ps (n:Nat):List Nat:=OX n n
theorem XT:∀ (f g n:Nat),n<=f->n<=g->OX f n=OX g n:=by
 intro f;induction f with
 | zero =>
  intro g n c d;have:n=0:=by omega
  subst this;cases g <;> simp[OX]
 | succ f ih =>
  intro g n c d;cases g with
  | zero =>
   have:n=0:=by omega
   subst this;simp[OX]
  | succ g =>
   simp only[OX];split
   ·rfl
   ·rw[ih g (n / 10) oo oo]
theorem WT:Ps 0=[]:=rfl
theorem XU (n:Nat) (h:n≠0):Ps n=(48+n % 10)::Ps (n / 10):=by unfold Ps;obtain⟨m,rfl⟩:∃ m,n=m+1:=⟨n - 1,by omega⟩;rw[show OX (m+1) (m+1)=(48+(m+1) % 10)::OX m ((m+1) / 10) from by simp[OX]];rw[XT m ((m+1) / 10) ((m+1) / 10) oo AO]
theorem A4y:∀ k n,n<10 ^ k->10 ^ k<=10 * n->pad k n=Ps n:=by
 intro k;induction k with
 | zero=>intro n c d;simp at c;subst c;simp at d
 | succ k ih =>
  intro n c d;have g:n≠0:=by intro e;subst e;have:0<10 ^ (k+1):=EM de;omega
  rw[XU n g];show (48+n % 10)::pad k (n / 10)=_;congr 1;rw[Ck]at c d;cases k with
  | zero =>
   have:n / 10=0:=by simp at c;omega
   rw[this];rfl
  | succ k =>
   refine ih (n / 10) oo ?_;rw[Ck]at c d ⊢;omega
theorem A4z (n:Nat) (h:n≠0):Ps n≠[]:=by rw[XU n h];simp
def A4A (n:Nat):List Nat:=if n=0 then [48] else (Ps n).reverse
def Wr (a:Int):List Nat:=if a<0 then 45::A4A a.natAbs else A4A a.natAbs
theorem A6v (k:Nat):8 ^ k<=10 ^ k:=Nat.pow_le_pow_left de k
theorem WU {N k len:Nat}(e:N<4294967296 ^ len) (j:10 ^ k<=N):k<=11 * len:=by
 have g:2 ^ (3 * k)<=10 ^ k:=by rw[LJ];exact A6v k
 have c:4294967296 ^ len=2 ^ (32 * len):=by rw[LJ]
 rw[c]at e;have d:2 ^ (3 * k)<2 ^ (32 * len):=by omega
 have:=(Nat.pow_lt_pow_iff_right (by decide:1<2)).1 d;omega
theorem UZ {N k:Nat}(h:N<10 ^ k):(Ps N).length<=k:=by
 induction k generalizing N with
 | zero=>simp at h;subst h;simp[WT]
 | succ k ih =>
  by_cases c:N=0
  ·subst c;simp[WT]
  ·rw[XU N c];rw[Ck]at h;have:=ih (N:=N / 10) oo;simp;omega
theorem Qv {N len:Nat}(c:N<4294967296 ^ len):(Ps N).length<=11 * len+1:=by
 refine UZ ?_;rcases Dl N (10 ^ (11 * len+1)) with h | h
 ·exact h
 ·have:=WU c h;omega
end Go.Qf
namespace Go.Qf
open Go Go.RowKit Go.Proofs Go.Proofs.Tryz
variable {n base d1 d2:Nat}{ty e ty2:TypeId}{af af2:Array Edge}{x:Operand}{E:List (Nat×Value)}{cs:List Value}{Q:Exit->Act->World->Prop}{w0:World}{ops:Array Oper}{rest:List Oper}{pos2:String}{bs:List Nat}
theorem Gh.opened {w:World}{v:Value}(h:Gh base e w v cs) (d:cs≠[]):∃ g cap D,v=.slice (some ⟨g,0,none⟩) cs.length cap/\base<=g/\Aj e w g (cs++D)/\cap=cs.length+D.length/\cap<=maxLen:=by
 obtain⟨_,c⟩:=h;rcases c with ⟨_,h0⟩ | ⟨g,cap,cur,hv,hg,hh,hn,hm,hs,ht⟩
 ·exact absurd (FA h0) d
 ·simp only[LB]at hs ht;refine⟨g,cap,cur.toList.drop cs.length,hv,hg,?_,?_,hm⟩
  ·have e1:=Kh cs.length cur.toList;rw[ht]at e1;unfold Aj;rw[hh,e1]
  ·simp;omega
theorem Gh.form {w:World}{v:Value}(h:Gh base e w v cs):∃ p cap,v=.slice p cs.length cap/\cs.length<=cap:=by obtain⟨p,cap,hv,c,_⟩:=h.row;exact⟨p,cap,hv,c⟩
theorem A7W (bs:List Nat):∀ c ∈ bs.map u8,c.oneCell'=true:=by intro c d;simp at d;obtain⟨x,_,rfl⟩:=d;rfl
theorem Af.push8 {w:World}{s:Nat}{pos:String}{tv:Value}(b:Nat) {bv:Int}
  (y:ov E x=some (.int .u8 bv)) (l:bv=b) (v:∀ p,AR ((d1,p)::E) s=some tv) (r:Gh base 5 w tv (bs.map u8)) (a:bs.length<=100000000000) (z:Ac w0 w) (j:w0.heap.size<=base) (t:base<=w.heap.size) (m:Nat.blt d1 n=true) (o:Nat.blt d2 n=true)
  (next:∀ p v' w' c,Ac w c->Gh base 5 c tv (bs.map u8)->c.grownBy w' tv.ownBlock->Gh base 5 w' v' ((bs++[b]).map u8)->Ac w0 w'->Af prog n ((d2,v')::(d1,p)::E) w' ops rest Q) :
  Af prog n E w ops (⟨some d1,.buildSlice 113 1 #[(0,x)],ty,pos,af,none⟩::⟨some d2,.call ⟨.builtin .append,#[.tmp s,.tmp d1],#[113,113]⟩,ty2,pos2,af2,none⟩::rest) Q:=by
 subst l;refine Af.step rfl rfl m (Av.single A8 rfl rfl rfl y) ?_;rintro _ c ⟨rfl,k,d,f⟩;have e:=r.ext d;have u:Jk 5 c (.slice (some ⟨w.heap.size,0,none⟩) 1 1) ([b].map u8):=k.row rfl sm sm rfl;refine Af.step rfl rfl o (Av.append A8 rfl rfl rfl rfl (v _) (AF _ _ _) e u (A7W [b]) (by simp;omega) (by simp;omega) (by have:=d.size;omega)) ?_;rintro v' w' ⟨q,g,_⟩;refine next _ v' w' c d e g ?_ ((z.trans d).grown e j g)
 rw[Ev];exact q
theorem V2 (n:Nat) (h:n<=9223372036854775807):IntKind.i64.wrap (n:Int)=n:=Ab oo oo
theorem Zv (w:World) (v:Value) (neg:Bool) (xs:List Nat) (h:KP w v neg xs) (h4:xs.length<=1000000) :
  Calls prog 47 #[v] w (AJ fun r w'=>Ac w w'/\r=MG (Wr (sg neg (Ah xs)))):=by
 obtain⟨p,cap,rfl,hs⟩:=h;have kn:=Ap xs hs.2;refine cS func47 ntmps47 ?_;refine Nv ?_;refine .s (oB) ?_;rintro _ w1 ⟨rfl,ho,kg,kt⟩;refine A7 ?_;refine .p FW ?_;refine .s (oK AB (RD w1 _ _ _ EC oo)) ?_;rintro _ w2 ⟨hj,rfl⟩;refine .s (oK Bu (Pr (base:=w.heap.size) w2 _ _ (K2 EC) oo (kg.trans hj).size)) ?_;rintro mv w3 ⟨kh,Y⟩;have hh:Ac w w3:=EC;have hp:=(ho.ext hj).ext kh;obtain⟨mp,mc,rfl,_⟩:=Y.sl.form;generalize hN:Ah xs=N at *
 have T:N<4294967296 ^ xs.length:=by rw[<- hN];exact Fm xs hs.2
 refine A7 ?_;by_cases n:N=0
 ·subst n;refine .ct ?_;refine uR ⟨hh,?_⟩;cases neg <;> rfl
 refine St.ay rfl (by simp[CQ,n]) ?_;refine A7 ?_;refine St.loop (fun g:Value×Value×Nat=>[(1,.pointer (some ⟨w.heap.size,0,none⟩)),(3,g.1),(4,g.2.1)])
  (fun g w'=>Ac w w'/\Ei w.heap.size w' g.1 (Ae (N / 10 ^ g.2.2))/\Gh w.heap.size 5 w' g.2.1 ((pad g.2.2 N).map u8)/\Aj 37 w' w.heap.size [.bool neg,.slice p xs.length cap]/\g.2.2<=11 * xs.length+9)
  (fun g=>N / 10 ^ g.2.2) (.slice mp _ mc,.slice none 0 0,0) ⟨rfl,rfl,rfl,trivial⟩ ⟨hh,by simpa using Y,Gh.nil _ _ _,hp,by dsimp only;omega⟩ ?_
 rintro⟨kv,P,k⟩ Q ⟨f,E,K,B,h3⟩;dsimp only at f E K B h3 ⊢;obtain⟨ku,O,rfl,_⟩:=E.sl.form;refine A7 ?_;by_cases A:N / 10 ^ k=0
 ·refine St.ay rfl (by rw[A];rfl) ?_;have hn:N<10 ^ k:=by
   rcases Dl N (10 ^ k) with h | h
   ·exact h
   ·have:=Nat.div_pos h (EM (by decide:0<10));omega
  refine Nv ?_;refine St.loop (fun g:Value×Nat=>[(1,.pointer (some ⟨w.heap.size,0,none⟩)),(4,g.1)])
   (fun g w'=>w'=Q/\Gh w.heap.size 5 Q g.1 ((pad g.2 N).map u8)/\N<10 ^ g.2/\g.2<=k) (fun g=>g.2) (P,k) ⟨rfl,rfl,trivial⟩ ⟨rfl,K,hn,Ai _⟩ ?_
  rintro⟨kw,j⟩ o ⟨rfl,d,z,hy⟩;dsimp only at d z hy ⊢;obtain⟨kk,kj,rfl,V⟩:=d.form;obtain⟨i,rfl⟩:∃ i,j=i+1:=⟨j - 1,by
   rcases Gu j with e | e
   ·subst e;simp at z;omega
   ·omega⟩
  simp only[Bj,GF]at d V ⊢;have e1:IntKind.i64.wrap (((i+1:Nat):Int) - 1)=(i:Int):=by rw[Ab oo oo];omega
  have C:((pad (i+1) N).map u8)[i]?=some (u8 (48+N / 10 ^ i % 10)):=by rw[UY,Ev,Es (by simp[GF])];simp[GF]
  refine Nv ?_;refine .r rfl ?_;refine Af.elem A8 i _ (Gh.row d) C e1 rfl rfl rfl rfl rfl rfl rfl rfl rfl rfl (fun _=>rfl) ?_;intro p1;refine .r rfl ?_;(refine Af.nil ?_;repeat with_reducible first | refine Ad.ak ?_ | refine Ad.aL ?_);by_cases I:N / 10 ^ i % 10=0
  ·refine St.aD rfl (by rw[I];rfl) ?_;have hm:N<10 ^ i:=by
    rw[Ck]at z;rcases Dl N (10 ^ i) with h | h
    ·exact h
    ·have h1:=Nat.div_pos h (EM (by decide:0<10));have h2:N / 10 ^ i<10:=Ki z;omega
   refine Nv ?_;refine .r rfl ?_;refine .p (A0.bp A8 rfl rfl rfl rfl (by rw[e1];omega) (by rw[e1];omega)) ?_;rw[e1];refine A7 ?_;refine Ad.again (.slice kk i kj,i) ⟨rfl,rfl,trivial⟩ ⟨rfl,?_,hm,by omega⟩ (LG i);have:=Gh.cut d i (by simp[GF]);rw[UY,<- PU,List.take_left' (GF i N)]at this;exact this
  ·have h5:10 ^ (i+1)<=10 * N:=by
    rw[Ck];rcases Dl N (10 ^ i) with h | h
    ·rw[J5 h]at I;simp at I
    ·omega
   have J:=A4y (i+1) N z h5;refine St.ay rfl (by
    have:¬ ((((48+N / 10 ^ i % 10:Nat):Int))=48):=by omega
    simpa using this) ?_
   have hx:i+1<=11 * xs.length+9:=by omega
   generalize i+1=m at J d V hx ⊢;rw[J]at d;have hu:(Ps N).length=m:=by rw[<- J,GF]
   refine A7 ?_;refine .p FW ?_;(refine Af.nil ?_;repeat with_reducible first | refine Ad.ak ?_ | refine Ad.aL ?_);refine St.cL (fun g:Value=>[(4,g)]) (fun g w'=>Ac w w'/\Gh w.heap.size 5 w' g ((Ps N++(if neg then [45] else [])).map u8)) ?_ ?_
   ·cases neg with
    | true =>
     refine .ct ?_;refine Af.push8 45 rfl rfl (fun _=>rfl) d oo f AO f.size rfl rfl ?_;intro p2 v' R wm _ _ _ kb l;refine .r rfl ?_;exact Af.nil (Ad.met v' ⟨rfl,trivial⟩ ⟨l,kb⟩)
    | false =>
     refine .cF ?_;refine St.skip (Ad.met _ ⟨rfl,trivial⟩ ⟨f,by simpa using d⟩)
   rintro hl R ⟨l,b⟩;have ka:((Ps N++(if neg then [45] else [])).map u8)≠[]:=by have:=A4z N n;simp[this]
   have ko:((Ps N++(if neg then [45] else [])).map u8).length<=m+1:=by cases neg <;> simp[hu]
   obtain⟨g6,c6,D6,rfl,hv,u,ht,t⟩:=b.opened ka;refine A7 ?_;refine .s (Av.call JA rfl (XS R g6 c6 _ D6 u (by intro c U;simp only[CG]at U;obtain⟨x,_,rfl⟩:=U;exact⟨rfl,rfl⟩) oo)) ?_;rintro _ S ⟨ke,H⟩;have M:=l.aj ke hv;refine A7 ?_;have kd:Jk 5 S (.slice (some ⟨g6,0,none⟩) ((Ps N++(if neg then [45] else [])).map u8).length c6) ((Wr (sg neg N)).map u8):=by
    have e:(Wr (sg neg N)).map u8=((Ps N++(if neg then [45] else [])).map u8).reverse:=by
     rw[<- List.map_reverse,List.reverse_append];congr 1;unfold Wr A4A;rw[Gf,if_neg n];cases neg
     ·rw[if_neg (by simp[sg])];rfl
     ·rw[if_pos (by simp[sg];omega)];rfl
    rw[e];refine H.row (by rw[List.length_reverse]) oo ?_ ?_
    ·simp at ht ⊢;omega
    ·rw[FE,List.take_left' (by rw[List.length_reverse])]
   refine .p (A0.dS A8 rfl rfl rfl rfl rfl kd) ?_;refine A7 ?_;exact Ad.ax rfl rfl ⟨M,rfl⟩
 ·have hz:10 ^ k<=N:=by
   rcases Dl N (10 ^ k) with h | h
   ·exact absurd (J5 h) A
   ·exact h
  have km:=WU T hz;have kq:(Ae (N / 10 ^ k)).length<=1000000:=by refine Ar (AA _ N (EN _ _)) ?_;exact Ar (Gn T) h4
  have ks:0<(Ae (N / 10 ^ k)).length:=by
   rcases Gu (Ae (N / 10 ^ k)).length with e | e
   ·exact absurd (CQ.1 (FA e)) A
   ·exact e
  refine St.aD rfl (by simp;omega) ?_;obtain⟨g,mc,D,h8,W,y,kp,h7⟩:=E.opened (fun e=>A (CQ.1 e));cases h8;refine A7 ?_;refine .s (Av.call GJ rfl (Ku Q g 0 O 1000000000 [] D _ y rfl E.2 oo de de)) ?_;rintro _ o ⟨rfl,L,us,he,kf,hf,hq⟩;rw[Al]at hf ⊢;have ki:=f.aj L W;have G:Ei w.heap.size o (.slice (some ⟨g,0,none⟩) (Ae (N / 10 ^ k)).length O) us:=Ei.closed hq kf he.symm W oo h7;have d:Gh w.heap.size 5 o P ((pad k N).map u8):=Gh.aI K L y de;have hr:Aj 37 o w.heap.size [.bool neg,.slice p xs.length cap]:=by refine B.upd L ?_;intro e;subst e;unfold Aj at B y;rw[B]at y;simp at y
  refine A7 ?_;rw[<- he]at G ⊢;refine .s (oK AB (BN o _ _ G.sl oo)) ?_;rintro _ o ⟨rfl,rfl,_⟩;have F:=G.trimmed;rw[hf]at F ⊢;rw[LR,show 10 ^ k * 1000000000=10 ^ (k+9) from by rw[Df]]at F ⊢;generalize kr:Qa (.slice (some ⟨g,0,none⟩) us.length O) (Ae (N / 10 ^ (k+9))).length=mv5 at F;refine A7 ?_;refine St.loop (fun q:Value×Nat=>[(1,.pointer (some ⟨w.heap.size,0,none⟩)),(3,mv5),(4,q.1),(5,.int .u32 ((N / 10 ^ k % 1000000000 / 10 ^ q.2:Nat):Int)),(20,.int .i64 q.2)])
   (fun q w'=>Ac w w'/\Ei w.heap.size w' mv5 (Ae (N / 10 ^ (k+9)))/\Gh w.heap.size 5 w' q.1 ((pad (k+q.2) N).map u8)/\Aj 37 w' w.heap.size [.bool neg,.slice p xs.length cap]/\q.2<=9)
   (fun q=>9 - q.2) (P,0) ⟨rfl,rfl,rfl,?_,rfl,trivial⟩ ⟨ki,F,d,hr,by omega⟩ ?_
  ·show some (Value.int .u32 ((N / 10 ^ k % 1000000000:Nat):Int))=_;simp
  rintro⟨hl,i⟩ R ⟨l,t,b,u,hi⟩;dsimp only at l t b u hi ⊢;by_cases kl:i<9
  ·refine Nv ?_;refine .a 1 (.bool true) rfl (Aa oo) ?_;refine Nv ?_;refine .ct ?_;have kc:N / 10 ^ k % 1000000000 / 10 ^ i<4294967296:=by refine LL (EN _ _) ?_;omega
   have C:N / 10 ^ k % 1000000000 / 10 ^ i % 10=N / 10 ^ (k+i) % 10:=by
    have h9:(1000000000:Nat)=10 ^ i * 10 ^ (9 - i):=by rw[<- Df,show i+(9 - i)=9 from by omega]
    rw[h9,Nat.mod_mul_right_div_self,LR,<- Df,show 9 - i=(8 - i)+1 from by omega,Ck,AQ (10 ^ (8 - i)) 10,Nat.mod_mul_right_mod]
   have Z:N / 10 ^ k % 1000000000 / 10 ^ i / 10=N / 10 ^ k % 1000000000 / 10 ^ (i+1):=by rw[LR,Ck]
   generalize N / 10 ^ k % 1000000000 / 10 ^ i=rest at kc C Z ⊢;refine .p (A0.rem rfl rfl oo de) ?_;have e2:IntKind.u8.wrap (IntKind.u32.wrap (48+(rest:Int) % 10))=((48+N / 10 ^ (k+i) % 10:Nat):Int):=by rw[<- C];simp only[CJ,Ua];omega
   refine .r rfl ?_;refine Af.push8 (48+N / 10 ^ (k+i) % 10) rfl e2 (fun _=>rfl) b (by rw[GF];omega) l AO l.size rfl rfl ?_;intro p2 v' S wm hk hb X ha M;rw[<- UY,HS]at ha;have h6:Ei w.heap.size S mv5 (Ae (N / 10 ^ (k+9))):=⟨Gh.cY (t.ext hk).1 hb de X,t.2⟩;have H:=Aj.cY (u.ext hk) hb de X;refine A7 ?_;refine .p (A0.quo rfl rfl oo de) ?_;refine A7 ?_;refine Ad.again (v',i+1) ⟨rfl,rfl,rfl,?_,?_,trivial⟩ ⟨M,h6,ha,H,by dsimp only;omega⟩ (by dsimp only;omega)
   ·show some (Value.int .u32 (IntKind.u32.wrap ((rest:Int) / 10)))=_;rw[<- Z,CJ];congr 2;omega
   ·show some (Value.int .i64 (IntKind.i64.wrap ((i:Int)+1)))=_;rw[Ab oo oo];rfl
  ·have hw:i=9:=by omega
   subst hw;refine Nv ?_;refine .a 1 (.bool false) rfl (A9 oo) ?_;refine Nv ?_;refine .cf ?_;refine Ad.again (mv5,hl,k+9) ⟨rfl,rfl,rfl,trivial⟩ ⟨l,t,b,u,by dsimp only;omega⟩ ?_;show N / 10 ^ (k+9)<N / 10 ^ k;rw[Df,<- LR];exact Nat.div_lt_self oo de
variable {m:Nat}{w':World}
def sz (a:Int):Nat:=(Ae a.natAbs).length
def Dn (w:World) (v:Value) (a:Int):Prop:=∃ neg xs,KP w v neg xs/\sg neg (Ah xs)=a/\xs.length<=1000000
theorem Dn.ext {w:World}{v:Value}{a:Int}(h:Dn w v a) (e:Ac w w'):Dn w' v a:=by obtain⟨neg,xs,c,d⟩:=h;exact⟨neg,xs,c.ext e,d⟩
theorem Ao.den' {w:World}{v:Value}{a:Int}(h:Ao base w v a):KP w v (decide (a<0)) (Ae a.natAbs):=h.can.den
theorem WV (a:Int):sg (decide (a<0)) (Ah (Ae a.natAbs))=a:=by rw[Al,A4o]
theorem Ao.dn {w:World}{v:Value}{a:Int}(h:Ao base w v a) (c:sz a<=1000000):Dn w v a:=⟨_,_,h.den',WV a,c⟩
theorem Dn.bM {w:World}{v:Value}{a:Int}(h:Dn w v a):sz a<=1000000:=by obtain⟨neg,xs,c,rfl,d⟩:=h;unfold sz;rw[Gf];exact Ar (Ap xs c.lim) d
theorem Ud:sz 0=0:=rfl
theorem KG (a:Int):sz (-a)=sz a:=by unfold sz;rw[Int.natAbs_neg]
theorem Od {a b:Int}(h:a.natAbs<=b.natAbs):sz a<=sz b:=AA _ _ h
theorem Pt (a b:Int):sz (a+b)<=max (sz a) (sz b)+1:=by unfold sz;exact Ar (AA _ _ (Int.natAbs_add_le a b)) (FY _ _)
theorem RE (a b:Int):sz (a - b)<=max (sz a) (sz b)+1:=by rw[Int.sub_eq_add_neg];have:=Pt a (-b);rwa [KG]at this
theorem Bt (a b:Int):sz (a * b)<=sz a+sz b:=by unfold sz;rw[NX];exact KR _ _
theorem Bn {a:Int}(c:-18446744073709551616<a) (d:a<18446744073709551616):sz a<=2:=Db oo
theorem Ws (a b:Int):(a / b).natAbs<=a.natAbs:=by
 by_cases c:b=0
 ·subst c;rw[Int.ediv_zero];simp
 ·have h:=Int.mul_ediv_add_emod a b;have g:=Int.emod_nonneg a c;have j:=Int.emod_lt a c;have o:(b * (a / b)).natAbs=b.natAbs * (a / b).natAbs:=NX _ _;have d:1<=b.natAbs:=by omega
  have v:=Nat.le_mul_of_pos_left (a / b).natAbs d;by_cases y:(a / b).natAbs=0
  ·omega
  ·obtain⟨k,e⟩:∃ k,(a / b).natAbs=k+1:=⟨(a / b).natAbs - 1,by omega⟩;have l:b.natAbs * (a / b).natAbs=b.natAbs * k+b.natAbs:=by rw[e,PV]
   have m:=Nat.le_mul_of_pos_left k d;generalize b * (a / b)=t at *
   generalize a % b=r at *
   generalize b.natAbs * (a / b).natAbs=u at *
   generalize b.natAbs * k=u' at *
   generalize (a / b).natAbs=q at *
   omega
theorem V3 (a b:Int):sz (a / b)<=sz a:=Od (Ws a b)
theorem I9 {b:Int}(h:m<=b.natAbs):sz (m:Int)<=sz b:=Od (by simpa using h)
theorem A4B (a b:Int):sz ((Nat.gcd a.natAbs b.natAbs:Nat):Int)<=max (sz a) (sz b):=by
 by_cases c:a=0
 ·subst c;simp only[Int.natAbs_zero,Nat.gcd_zero_left];have:sz ((b.natAbs:Nat):Int)<=sz b:=I9 AO;omega
 ·have:sz ((Nat.gcd a.natAbs b.natAbs:Nat):Int)<=sz a:=I9 (Nat.gcd_le_left _ oo);omega
section
variable {w:World}{x y:Value}{a b:Int}
theorem Zw (h:Dn w x a):Calls prog 213 #[x] w (AJ fun r w'=>Ac w w'/\r=Je a):=by obtain⟨neg,xs,c,rfl,d⟩:=h;exact A0X w x neg xs c oo
theorem Kv (h:Dn w x a):Calls prog 43 #[x] w (AJ fun r w'=>Ac w w'/\r=.int .i64 (AH a)):=by obtain⟨neg,xs,c,rfl,d⟩:=h;exact RB w x neg xs c oo
theorem A4C (h:Dn w x a) (k:Dn w y b):Calls prog 36 #[x,y] w (AJ fun r w'=>Ac w w'/\r=.int .i64 (HK a b)):=by obtain⟨neg,xs,c,rfl,e⟩:=h;obtain⟨d,ys,k1,rfl,k3⟩:=k;exact A3a w x y neg d xs ys c k1 oo oo
theorem A7X (h:Dn w x a):Calls prog 121 #[x] w (AJ fun r w'=>Ac w w'/\Ub w' r (-a)):=by obtain⟨neg,xs,c,rfl,d⟩:=h;exact A4w w x neg xs c oo
theorem Qw (h:Dn w x a) (d:base<=w.heap.size):Calls prog 38 #[x] w (AJ fun r w'=>Ac w w'/\Ao base w' r a):=by obtain⟨neg,xs,c,rfl,k⟩:=h;refine (UV w x neg xs c oo).mono ?_;rintro e w' ⟨r,rfl,j,g⟩;exact⟨r,rfl,j,g.mono d⟩
theorem A7Y (h:Dn w x a) (k:Dn w y b):Calls prog 169 #[x,y] w (AJ fun r w'=>Ac w w'/\Ub w' r (a+b)):=by obtain⟨neg,xs,c,rfl,e⟩:=h;obtain⟨d,ys,k1,rfl,k3⟩:=k;exact A4s w x y neg d xs ys c k1 oo oo
theorem A7Z (h:Dn w x a) (k:Dn w y b):Calls prog 234 #[x,y] w (AJ fun r w'=>Ac w w'/\Ub w' r (a - b)):=by obtain⟨neg,xs,c,rfl,e⟩:=h;obtain⟨d,ys,k1,rfl,k3⟩:=k;have:=A4t w x y neg d xs ys c k1 oo oo;rwa [A12,<- Int.sub_eq_add_neg]at this
theorem M7 (h:Dn w x a) (k:Dn w y b):Calls prog 37 #[x,y] w (AJ fun r w'=>Ac w w'/\Ub w' r (a * b)):=by obtain⟨neg,xs,c,rfl,e⟩:=h;obtain⟨d,ys,k1,rfl,k3⟩:=k;exact A4v w x y neg d xs ys c k1 oo oo
theorem RF (h:Dn w x a) (k:Dn w y b) (c:base<=w.heap.size):Calls prog 122 #[x,y] w (AJ fun r w'=>Ac w w'/\A4x base w' r a b):=by obtain⟨neg,xs,g,rfl,t⟩:=h;obtain⟨z,ys,k1,rfl,k3⟩:=k;refine (Zt w x y neg z xs ys g k1 oo oo).mono ?_;rintro e w' ⟨r,rfl,v,o,u⟩;refine⟨r,rfl,v,o,fun d=>?_⟩;obtain⟨q,m,e,l,j⟩:=u d;exact⟨q,m,e,l.mono c,j.mono c⟩
theorem A80 (h:Dn w x a) (k:Dn w y b):Calls prog 120 #[x,y] w (AJ fun r w'=>Ac w w'/\Ub w' r ((Nat.gcd a.natAbs b.natAbs:Nat):Int)):=by obtain⟨neg,xs,c,rfl,e⟩:=h;obtain⟨d,ys,k1,rfl,k3⟩:=k;have:=A39 w x y neg d xs ys c k1 oo oo;rw[Gf,Gf];exact this
theorem RG (h:Dn w x a):Calls prog 47 #[x] w (AJ fun r w'=>Ac w w'/\r=MG (Wr a)):=by obtain⟨neg,xs,c,rfl,d⟩:=h;exact Zv w x neg xs c oo
end
variable {b s1 s2:Nat}{t t2:TypeId}{g:Option (Nat×Bool)}{d:Option Tmp}{u:Value}{xs:List Nat}{C:List Value}{neg:Bool}
theorem Ng (bs:List Nat) (h:bs.all (fun b=>decide (b<256))=true):B8 bs:=fun b c=>by have:=Eu.1 h b c;simpa using this
theorem Af.aK {w:World}{t s:Nat}{pos:String}{v:Value}{a:Int}
  (m:AR E t=some (.pointer (some ⟨b,0,none⟩))) (l:AR E s=some v) (c:Aj 37 w b C) (e:C.length=2) (hv:Ao base w v a) (o:Ac w0 w) (g:w0.heap.size<=b)
  (next:∀ w',Aj 37 w' b v.cells.toList->CE b w w'->Ao base w' v a->Ac w0 w'->Af prog n E w' ops rest Q) :
  Af prog n E w ops (⟨none,.store 37 (.tmp t) (.tmp s),ty,pos,af,none⟩::rest) Q:=by
 refine Af.bQ m l c e hv o g ?_;intro r cs k u j d q;refine next r ?_ d (hv.upd d ⟨_,c⟩) q
 rw[k];simpa[Value.cells] using j
theorem sC {w:World}{t s:Nat}{pos:String}{v:Value}{a:Int}(d:Aj 37 w b C) (hv:Ao base w v a) (k:Ac w0 w) (e:w0.heap.size<=b) (next:∀ w',Aj 37 w' b v.cells.toList->CE b w w'->Ao base w' v a->Ac w0 w'->Af prog n E w' ops rest Q) (j:AR E t=some (.pointer (some ⟨b,0,none⟩)):=by exact rfl) (g:AR E s=some v:=by exact rfl) (c:C.length=2:=by exact rfl):
  Af prog n E w ops (⟨none,.store 37 (.tmp t) (.tmp s),ty,pos,af,none⟩::rest) Q:=Af.aK j g d c hv k e next
theorem Ao.agg {w:World}{v:Value}{a:Int}(h:Ao base w v a):v=.agg v.cells:=by obtain⟨p,cap,rfl,_⟩:=h;rfl
theorem A0.cD {w wv:World}{pos:String}{v:Value}{a:Int}(e:ov E x=some (.pointer (some ⟨b,0,none⟩))) (c:Aj 37 w b v.cells.toList) (hv:Ao base wv v a) :
  A0 prog n ⟨d,.load 37 x,ty,pos,af,g⟩ E w v :=
 A0.bB e c hv.two.1 (by simpa using hv.agg)
theorem rC {w wv:World}{pos:String}{v:Value}{a:Int}(c:Aj 37 w b v.cells.toList) (hv:Ao base wv v a) (e:ov E x=some (.pointer (some ⟨b,0,none⟩)):=by exact rfl):
  A0 prog n ⟨d,.load 37 x,ty,pos,af,g⟩ E w v:=A0.cD e c hv
theorem A3b (a:Int):HK a a=0:=by unfold HK;rw[if_neg oo,if_neg oo]
theorem A81 {w:World}{v:Value}(h:KP w v neg xs):sz (sg neg (Ah xs))<=xs.length:=by unfold sz;rw[Gf];exact Ap xs h.lim
theorem Af.cZ {w:World}{ty1 ty3 ty4:TypeId}{p1 p2 p3 p4:String}{a1 a2 a3 a4:Array Edge}{v:Value}{x y:Int}
  (a:Nat.blt d1 n=true) (b:Nat.blt d2 n=true) (f:Nat.beq d2 d1=false) (h:∀ p q,AR ((d2,q)::(d1,p)::E) s1=some u) (i:∀ p q,AR ((d2,q)::(d1,p)::E) s2=some v) (hu:Ao base w u x) (hv:Ao base w v y) (B:Ac w0 w)
  (next:∀ b1 b2 w',b1≠b2->w.heap.size<=b1->w.heap.size<=b2->Ac w w'->Aj 37 w' b1 u.cells.toList->Aj 37 w' b2 v.cells.toList->Ao base w' u x->Ao base w' v y->Ac w0 w'->Af prog n ((d2,.pointer (some ⟨b2,0,none⟩))::(d1,.pointer (some ⟨b1,0,none⟩))::E) w' ops rest Q) :
  Af prog n E w ops (⟨some d1,.alloc 37,ty1,p1,a1,none⟩::⟨some d2,.alloc 37,ty2,p2,a2,none⟩::⟨none,.store 37 (.tmp d1) (.tmp s1),ty3,p3,a3,none⟩::⟨none,.store 37 (.tmp d2) (.tmp s2),ty4,p4,a4,none⟩::rest) Q:=by
 refine Af.step rfl rfl a (oA) ?_;rintro _ F ⟨rfl,g,C,H⟩;refine Af.step rfl rfl b (oA) ?_;rintro _ J ⟨rfl,z,d,I⟩;have c:=C.trans d;have t:AR ((d2,Value.pointer (some ⟨F.heap.size,0,none⟩))::(d1,.pointer (some ⟨w.heap.size,0,none⟩))::E) d1=some (.pointer (some ⟨w.heap.size,0,none⟩)):=by rw[Bc _ _ (fun e=>by subst e;simp at f),AF]
 refine Af.aK t (h _ _) (g.ext d) rfl (hu.ext c) c AO ?_;intro K o k s D;have j:=z.upd k oo;refine Af.aK (AF _ _ _) (i _ _) j rfl (Ao.upd (hv.ext c) k ⟨_,g.ext d⟩) D oo ?_;intro G r l A m;exact next _ _ G oo AO oo m (o.upd l oo) r (Ao.upd s l ⟨_,j⟩) A (B.trans m)
theorem Af.d9 {w:World}{d s:Nat}{ty1:TypeId}{p1 p2:String}{a1 a2:Array Edge}{x:Int}
  (k:Nat.blt d n=true) (l:∀ p,AR ((d,p)::E) s=some u) (hu:Ao base w u x) (o:Ac w0 w)
  (next:∀ b w',w.heap.size<=b->Ac w w'->Aj 37 w' b u.cells.toList->Ao base w' u x->Ac w0 w'->Af prog n ((d,.pointer (some ⟨b,0,none⟩))::E) w' ops rest Q) :
  Af prog n E w ops (⟨some d,.alloc 37,ty1,p1,a1,none⟩::⟨none,.store 37 (.tmp d) (.tmp s),ty2,p2,a2,none⟩::rest) Q:=by refine Af.step rfl rfl k (oA) ?_;rintro _ y ⟨rfl,j,c,v⟩;refine Af.aK (AF _ _ _) (l _) j rfl (hu.ext c) c AO ?_;intro q g r m e;exact next _ q AO e g m (o.trans e)
section
variable {P:Program}{T:List (Nat×TI)}{n:Nat}{E:List (Nat×Value)}{w:World}
theorem A0.bJ {y:Operand}{pos:String}{k:IntKind}{m s:Int}(j:ov E x=some (.int k m)) (l:ov E y=some (.int k s)) (e:s≠0) :
  A0 P n ⟨d,.binOp .rem t x y t2,ty,pos,af,g⟩ E w (.int k (m.tmod s)):=by intro a c;have e1:=c.eval j;have e2:=c.eval l;generalize a.eval=ρ at e1 e2;simp[execOp,e1,e2,eqGuard,binOp,Op.intDiv,e,go_sem]
end
theorem A6w (a b:Int):((Int.gcd b a:Nat):Int)=((Nat.gcd a.natAbs b.natAbs:Nat):Int):=by rw[Int.gcd_comm];rfl
theorem RH (a b:Int):((Nat.gcd a.natAbs b.natAbs:Nat):Int) ∣ a:=Int.ofNat_dvd_left.2 (Nat.gcd_dvd_left _ _)
theorem A3c (a b:Int):((Nat.gcd a.natAbs b.natAbs:Nat):Int) ∣ b:=Int.ofNat_dvd_left.2 (Nat.gcd_dvd_right _ _)
theorem XV {a b:Int}(c:b≠0):Nat.gcd a.natAbs b.natAbs≠0:=by have:=Nat.gcd_pos_of_pos_right a.natAbs (show 0<b.natAbs by omega);omega
theorem A2k {a b:Int}(c:0<b):(Rat.divInt a b).num=a / ((Nat.gcd a.natAbs b.natAbs:Nat):Int):=by rw[Rat.num_divInt,TX c,Int.one_mul,A6w]
theorem A4D {a b:Int}(c:b<0):(Rat.divInt a b).num=a / -((Nat.gcd a.natAbs b.natAbs:Nat):Int):=by rw[Rat.num_divInt,Int.sign_eq_neg_one_of_neg c,A6w,TV,Jv,Int.one_mul,Int.neg_ediv_of_dvd (RH a b)]
theorem Zx {a b:Int}(c:0<b):((Rat.divInt a b).den:Int)=b / ((Nat.gcd a.natAbs b.natAbs:Nat):Int):=by rw[Rat.den_divInt,if_neg oo,TY,A6w,Int.natAbs_of_nonneg oo]
theorem A4E {a b:Int}(c:b<0):((Rat.divInt a b).den:Int)=b / -((Nat.gcd a.natAbs b.natAbs:Nat):Int):=by
 have e:((b.natAbs:Nat):Int)=-b:=by omega
 rw[Rat.den_divInt,if_neg oo,TY,A6w,e,TV,Int.neg_ediv_of_dvd (A3c a b)]
theorem Pu {a b:Int}(c:b≠0):a / (if b<0 then -((Nat.gcd a.natAbs b.natAbs:Nat):Int) else ((Nat.gcd a.natAbs b.natAbs:Nat):Int))=(Rat.divInt a b).num:=by
 split
 ·rw[A4D oo]
 ·rw[A2k oo]
theorem A16 {a b:Int}(c:b≠0):b / (if b<0 then -((Nat.gcd a.natAbs b.natAbs:Nat):Int) else ((Nat.gcd a.natAbs b.natAbs:Nat):Int))=((Rat.divInt a b).den:Int):=by
 split
 ·rw[A4E oo]
 ·rw[Zx oo]
theorem A6x (q:Rat):(0:Int)<q.den:=by have:=q.den_nz;omega
def rz (q:Rat):Nat:=max (sz q.num) (sz (q.den:Int))
theorem Ez (q:Rat):sz q.num<=rz q:=Nat.le_max_left _ _
theorem EG (q:Rat):sz (q.den:Int)<=rz q:=Nat.le_max_right _ _
theorem RI:sz 1=1:=by decide +kernel
theorem JK (a b:Int):rz (Rat.divInt a b)<=max (max (sz a) (sz b)) 1:=by
 have c:sz (Rat.divInt a b).num<=sz a:=by
  rw[Rat.num_divInt];refine Ar (V3 _ _) (Od ?_);rw[NX];rcases PZ b 0 with h | h | h
  ·rw[Int.sign_eq_neg_one_of_neg h];simp
  ·subst h;simp
  ·rw[TX h];simp
 have d:sz ((Rat.divInt a b).den:Int)<=max (sz b) 1:=by
  rw[Rat.den_divInt];split
  ·have c:sz ((1:Nat):Int)=1:=by decide +kernel
   omega
  ·have:sz (((b.natAbs / Int.gcd b a:Nat)):Int)<=sz b:=I9 (EN _ _);omega
 unfold rz;omega
theorem XW (p q:Rat):rz (p+q)<=rz p+rz q+1:=by rw[Rat.add_def',<- Rat.divInt_ofNat];have h:=JK (p.num * q.den+q.num * p.den) ((p.den * q.den:Nat):Int);have d:=Pt (p.num * q.den) (q.num * p.den);have e:=Bt p.num q.den;have g:=Bt q.num p.den;have c:=Bt (p.den:Int) (q.den:Int);rw[<- Gv]at c;have:=Ez p;have:=Ez q;have:=EG p;have:=EG q;omega
theorem V4 (p q:Rat):rz (p * q)<=rz p+rz q+1:=by rw[Rat.mul_def',<- Rat.divInt_ofNat];have h:=JK (p.num * q.num) ((p.den * q.den:Nat):Int);have d:=Bt p.num q.num;have c:=Bt (p.den:Int) (q.den:Int);rw[<- Gv]at c;have:=Ez p;have:=Ez q;have:=EG p;have:=EG q;omega
theorem V5 (q:Rat):rz q⁻¹<=max (rz q) 1:=by rw[Rat.inv_def];have h:=JK (q.den:Int) q.num;have:=Ez q;have:=EG q;omega
theorem Jf (a:Int):rz (a:Rat)<=max (sz a) 1:=by unfold rz;rw[Rat.num_intCast,Rat.den_intCast];have:=RI;simp only[Int.cast_ofNat_Int];omega
def RJ (p q:Rat):Int:=if p<q then -1 else if q<p then 1 else 0
theorem A17 (p q:Rat):HK (p.num * q.den) (q.num * p.den)=RJ p q:=by unfold HK RJ;simp only[Rat.lt_iff]
theorem A6y (q:Rat):q.num<0↔q<0:=by rw[Rat.lt_iff];simp
theorem XX (q:Rat):q.num=0↔q=0:=Rat.num_eq_zero
theorem RK (p:Rat):RJ p p=0:=by unfold RJ;simp[Q0]
theorem WW (a b:Int):AH a * AH b=AH (a * b):=by
 unfold AH;rcases PZ a 0 with ha | ha | ha <;> rcases PZ b 0 with hb | hb | hb
 ·have:=Int.mul_pos_of_neg_of_neg ha hb;rw[if_pos ha,if_pos hb,if_neg oo,if_neg oo];rfl
 ·subst hb;simp
 ·have:=Int.mul_neg_of_neg_of_pos ha hb;rw[if_pos ha,if_neg oo,if_neg oo,if_pos oo];rfl
 ·subst ha;simp
 ·subst ha;simp
 ·subst ha;simp
 ·have:=TZ ha hb;rw[if_pos hb,if_neg oo,if_neg oo,if_pos oo];rfl
 ·subst hb;simp
 ·have:=Int.mul_pos ha hb;rw[if_neg oo,if_neg oo,if_neg (show ¬ b<0 by omega),if_neg (show ¬ b=0 by omega),if_neg oo,if_neg oo];rfl
theorem Zy (a b:Int):AH a * AH b=AH (Rat.divInt a b).num:=by
 rcases PZ b 0 with hb | hb | hb
 ·have c:=Pu (a:=a) (b:=b) oo;rw[if_pos hb]at c;have g:=XV (a:=a) (b:=b) oo;have d:=Int.ediv_mul_cancel (RH a b);rw[TV]at c;have e:AH a=AH (a / ((Nat.gcd a.natAbs b.natAbs:Nat):Int)) * 1:=by have:=WW (a / ((Nat.gcd a.natAbs b.natAbs:Nat):Int)) ((Nat.gcd a.natAbs b.natAbs:Nat):Int);rw[d]at this;rw[<- this];congr 1;unfold AH;rw[if_neg oo,if_neg oo]
  rw[<- c,e];generalize a / ((Nat.gcd a.natAbs b.natAbs:Nat):Int)=t;unfold AH;rw[if_pos hb];repeat' split
  all_goals omega
 ·subst hb;rw[Rat.divInt_zero];simp[AH]
 ·have c:=Pu (a:=a) (b:=b) oo;rw[if_neg oo]at c;have g:=XV (a:=a) (b:=b) oo;have d:=Int.ediv_mul_cancel (RH a b);have e:AH a=AH (a / ((Nat.gcd a.natAbs b.natAbs:Nat):Int)) * 1:=by have:=WW (a / ((Nat.gcd a.natAbs b.natAbs:Nat):Int)) ((Nat.gcd a.natAbs b.natAbs:Nat):Int);rw[d]at this;rw[<- this];congr 1;unfold AH;rw[if_neg oo,if_neg oo]
  rw[<- c,e];unfold AH;rw[if_neg (show ¬ b<0 by omega),if_neg (show ¬ b=0 by omega)];omega
variable {j cap:Nat}{y:Value}{vs:List Value}{Φ:Value->World->Prop}{fn:Func}
def R2 (v:Value):Prop:=∃ n s,v=FM n s/\s.oneCell'=true
def R4 (v:Value):Prop:=∃ n s m t,v=.agg #[.bool n,s,.bool m,t]/\s.oneCell'=true/\t.oneCell'=true
def nm (v:Value):Value:=.agg #[v.cells.getD 0 undef,v.cells.getD 1 undef]
def dm (v:Value):Value:=.agg #[v.cells.getD 2 undef,v.cells.getD 3 undef]
def mkR (x y:Value):Value:=.agg #[x.cells.getD 0 undef,x.cells.getD 1 undef,y.cells.getD 0 undef,y.cells.getD 1 undef]
theorem A18 {x:Value}(c:R2 x):nm (mkR x y)=x:=by obtain⟨n,s,rfl,_⟩:=c;rfl
theorem A19 {x:Value}(c:R2 y):dm (mkR x y)=y:=by obtain⟨n,s,rfl,_⟩:=c;rfl
theorem A1a {x:Value}(e:R2 x) (g:R2 y):R4 (mkR x y):=by obtain⟨n,s,rfl,c⟩:=e;obtain⟨m,t,rfl,d⟩:=g;exact⟨n,s,m,t,rfl,c,d⟩
theorem R4.agg {v:Value}(h:R4 v):v=.agg v.cells:=by obtain⟨n,s,m,t,rfl,_⟩:=h;rfl
theorem R4.len {v:Value}(h:R4 v):v.cells.toList.length=4:=by obtain⟨n,s,m,t,rfl,_⟩:=h;rfl
theorem R4.ones {v:Value}(h:R4 v):∀ u ∈ v.cells.toList,u.oneCell'=true:=by
 obtain⟨n,s,m,t,rfl,c,d⟩:=h;intro u hu;simp only[Value.cells,Cw,LN,or_false]at hu;rcases hu with rfl | rfl | rfl | rfl
 ·rfl
 ·exact c
 ·rfl
 ·exact d
theorem R2.len {v:Value}(h:R2 v):v.cells.toList.length=2:=by obtain⟨n,s,rfl,_⟩:=h;rfl
theorem Ao.r2 {w:World}{v:Value}{a:Int}(h:Ao base w v a):R2 v:=by obtain⟨p,cap,rfl,_⟩:=h;exact⟨_,_,rfl,rfl⟩
theorem Dn.r2 {w:World}{v:Value}{a:Int}(h:Dn w v a):R2 v:=by obtain⟨n,xs,⟨p,cap,rfl,_⟩,_⟩:=h;exact⟨_,_,rfl,rfl⟩
theorem R4.two {v:Value}(h:R4 v):R2 (nm v)/\R2 (dm v):=by obtain⟨n,s,m,t,rfl,c,d⟩:=h;exact⟨⟨n,s,rfl,c⟩,m,t,rfl,d⟩
def Bk (base:Nat) (w:World) (v:Value) (q:Rat):Prop:=R4 v/\Ao base w (nm v) q.num/\Ao base w (dm v) (q.den:Int)
def Pv (w:World) (v:Value) (q:Rat):Prop:=R4 v/\∃ a b,Dn w (nm v) a/\Dn w (dm v) b/\q=Rat.divInt a b
theorem Bk.mk {w:World}{x:Value}{q:Rat}(c:Ao base w x q.num) (d:Ao base w y (q.den:Int)):Bk base w (mkR x y) q :=
 ⟨A1a c.r2 d.r2,by rw[A18 c.r2];exact c,by rw[A19 d.r2];exact d⟩
theorem Pv.mk {w:World}{x:Value}{a b:Int}(c:Dn w x a) (d:Dn w y b):Pv w (mkR x y) (Rat.divInt a b) :=
 ⟨A1a c.r2 d.r2,a,b,by rw[A18 c.r2];exact c,by rw[A19 d.r2];exact d,rfl⟩
theorem Bk.ext {w:World}{v:Value}{q:Rat}(h:Bk base w v q) (c:Ac w w'):Bk base w' v q:=⟨h.1,h.2.1.ext c,h.2.2.ext c⟩
theorem Bk.rg {T:Nat->Prop}{w:World}{v:Value}{q:Rat}(h:Bk base w v q) (c:Rg prog T w w'):Bk base w' v q:=⟨h.1,h.2.1.rg c,h.2.2.rg c⟩
theorem Am.bE (base:Nat) (q:Rat):Am prog (fun v w=>Bk base w v q):=fun _ _ _ c h=>h.rg c
theorem Pv.ext {w:World}{v:Value}{q:Rat}(h:Pv w v q) (c:Ac w w'):Pv w' v q:=by obtain⟨d,a,b,g,j,e⟩:=h;exact⟨d,a,b,g.ext c,j.ext c,e⟩
theorem Bk.dn {w:World}{v:Value}{q:Rat}(h:Bk base w v q) (c:rz q<=1000000):Pv w v q :=
 ⟨h.1,q.num,q.den,h.2.1.dn (Ar (Ez q) c),h.2.2.dn (Ar (EG q) c),(LS q).symm⟩
theorem Ao.aI {w:World}{v:Value}{a:Int}(h:Ao base w v a) (hu:CE b w w') (d:Aj t w b C) (e:109≠t):Ao base w' v a:=by obtain⟨p,cap,hv,c⟩:=h;exact⟨p,cap,hv,Gh.aI c.1 hu d e,c.2⟩
theorem Bk.upd {w:World}{v:Value}{q:Rat}(h:Bk base w v q) (hu:CE b w w') (c:Aj t w b C) (d:109≠t):Bk base w' v q :=
 ⟨h.1,h.2.1.aI hu c d,h.2.2.aI hu c d⟩
def tyF:TypeId:=71
def RT (t:TypeId):Bool:=Nat.beq t 39 || Nat.beq t tyF
theorem RT.look (h:RT t=true):∃ ti,AG TB t=some ti/\DJ ti.desc=true/\ti.size=4/\ti.zero.cells.toList.length=4/\109≠t:=by
 unfold RT at h;rw[H9]at h;rcases h with h | h
 ·have:=J3 h;subst this;exact⟨_,rfl,rfl,rfl,rfl,by decide⟩
 ·have:=J3 h;subst this;exact⟨_,rfl,rfl,rfl,rfl,by decide⟩
section
variable {n:Nat}{E:List (Nat×Value)}{w:World}{d:Option Tmp}{x y:Operand}{ty:TypeId}{pos:String}{af:Array Edge}{g:Option (Nat×Bool)}{b:Nat}{e t:TypeId}{u v:Value}
theorem A0.loadR (j:RT t=true) (o:ov E x=some (.pointer (some ⟨b,0,none⟩))) (l:Aj e w b v.cells.toList) (hv:R4 v):A0 prog n ⟨d,.load t x,ty,pos,af,g⟩ E w v:=by obtain⟨ti,m,k,c,_⟩:=RT.look j;have:=A0.aA (n:=n) (d:=d) (ty:=ty) (pos:=pos) (af:=af) (g:=g) A8 m k o l (cs:=v.cells.toList) (by rw[c,hv.len];exact Ai 4) (by rw[c,FE];exact Bs (by rw[hv.len];exact Ai 4));rw[show Value.agg v.cells.toList.toArray=v from by simpa using hv.agg.symm]at this;exact this
theorem rR  (j:Aj e w b v.cells.toList) (hv:R4 v) (c:RT t=true:=by exact rfl) (k:ov E x=some (.pointer (some ⟨b,0,none⟩)):=by exact rfl):A0 prog n ⟨d,.load t x,ty,pos,af,g⟩ E w v:=A0.loadR c k j hv
theorem A0.bg (j:ov E x=some (.pointer (some ⟨b,0,none⟩))) (c:Aj e w b v.cells.toList) (hv:R4 v):A0 prog n ⟨d,.load 37 x,ty,pos,af,g⟩ E w (nm v):=by obtain⟨n,s,m,t,rfl,_⟩:=hv;exact A0.aA A8 rfl rfl j c (by simp[Value.cells]) rfl
theorem A0.aX (j:ov E x=some (.pointer (some ⟨b,2,none⟩))) (c:Aj e w b v.cells.toList) (hv:R4 v):A0 prog n ⟨d,.load 37 x,ty,pos,af,g⟩ E w (dm v):=by obtain⟨n,s,m,t,rfl,_⟩:=hv;exact A0.aA A8 rfl rfl j c (by simp[Value.cells]) rfl
theorem A0.loadI2 (j:ov E x=some (.pointer (some ⟨b,0,none⟩))) (c:Aj e w b v.cells.toList) (hv:R2 v):A0 prog n ⟨d,.load 37 x,ty,pos,af,g⟩ E w v:=by obtain⟨n,s,rfl,_⟩:=hv;exact A0.aA A8 rfl rfl j c (by simp[FM,Value.cells]) rfl
theorem rI  (c:Aj e w b v.cells.toList) (hv:R2 v) (j:ov E x=some (.pointer (some ⟨b,0,none⟩)):=by exact rfl):A0 prog n ⟨d,.load 37 x,ty,pos,af,g⟩ E w v:=A0.loadI2 j c hv
theorem A0.fieldN (c:RT t=true) (e:ov E x=some v) (hv:R4 v):A0 prog n ⟨d,.field t x 0,ty,pos,af,g⟩ E w (nm v):=by
 refine A0.pure A8 ?_;obtain⟨n,s,m,k,rfl,_⟩:=hv;unfold RT at c;rw[H9]at c;rcases c with h | h;all_goals
  have:=J3 h
  subst this
  dsimp only[Ht]
  rw[e]
  rfl
theorem A0.fieldD (c:RT t=true) (e:ov E x=some v) (hv:R4 v):A0 prog n ⟨d,.field t x 1,ty,pos,af,g⟩ E w (dm v):=by
 refine A0.pure A8 ?_;obtain⟨n,s,m,k,rfl,_⟩:=hv;unfold RT at c;rw[H9]at c;rcases c with h | h;all_goals
  have:=J3 h
  subst this
  dsimp only[Ht]
  rw[e]
  rfl
theorem A0.bK (c:ov E x=some u) (e:ov E y=some v) (hu:R2 u) (hv:R2 v):A0 prog n ⟨d,.build 39 #[(0,x),(1,y)],ty,pos,af,g⟩ E w (mkR u v):=by obtain⟨n,s,rfl,_⟩:=hu;obtain⟨m,t,rfl,_⟩:=hv;exact A0.build A8 rfl (pl:=[(0,2),(2,2)]) rfl (ps:=[(0,FM n s),(1,FM m t)]) (by simp[ovp,c,e]) rfl
end
section
variable {n:Nat}{E:List (Nat×Value)}{w w0:World}{ops:Array Oper}{rest:List Oper}{Q:Exit->Act->World->Prop}{ty ty1 ty2:TypeId}{pos p1 p2:String}{af a1 a2:Array Edge}{b t s d:Nat}{C:List Value}{v:Value}{e:TypeId}
theorem Af.aT (g:RT e=true) (q:AR E t=some (.pointer (some ⟨b,0,none⟩))) (o:AR E s=some v) (hv:R4 v) (k:Aj e w b C) (d:C.length=4) (u:Ac w0 w) (m:w0.heap.size<=b)
  (next:∀ w',Aj e w' b v.cells.toList->CE b w w'->Ac w0 w'->Af prog n E w' ops rest Q) :
  Af prog n E w ops (⟨none,.store e (.tmp t) (.tmp s),ty,pos,af,none⟩::rest) Q:=by obtain⟨ti,r,j,c,_⟩:=RT.look g;refine sZ (Av.storeAll A8 r j q o (by rw[c];exact hv.len) (by rw[c];exact d) hv.ones k) ?_;rintro _ w' ⟨l,hu,_⟩;exact next w' l hu (u.aj hu m)
theorem sR  (hv:R4 v) (g:Aj e w b C) (c:C.length=4) (m:Ac w0 w) (j:w0.heap.size<=b) (next:∀ w',Aj e w' b v.cells.toList->CE b w w'->Ac w0 w'->Af prog n E w' ops rest Q) (d:RT e=true:=by exact rfl) (l:AR E t=some (.pointer (some ⟨b,0,none⟩)):=by exact rfl) (k:AR E s=some v:=by exact rfl):
  Af prog n E w ops (⟨none,.store e (.tmp t) (.tmp s),ty,pos,af,none⟩::rest) Q:=Af.aT d l k hv g c m j next
theorem Af.bn (c:RT e=true) (k:Nat.blt d n=true) (l:∀ p,AR ((d,p)::E) s=some v) (hv:R4 v)
  (next:∀ b w',w.heap.size<=b->Ac w w'->Aj e w' b v.cells.toList->Af prog n ((d,.pointer (some ⟨b,0,none⟩))::E) w' ops rest Q) :
  Af prog n E w ops (⟨some d,.alloc e,ty1,p1,a1,none⟩::⟨none,.store e (.tmp d) (.tmp s),ty2,p2,a2,none⟩::rest) Q:=by obtain⟨ti,m,z,y,r,_⟩:=RT.look c;refine Af.step rfl rfl k (Av.alloc A8 m) ?_;rintro _ f ⟨rfl,j,o,a⟩;refine Af.aT c (AF _ _ _) (l _) hv j r o AO ?_;intro u g t q;exact next _ u AO q g
theorem sN  (j:∀ p,AR ((d,p)::E) s=some v) (hv:R4 v) (next:∀ b w',w.heap.size<=b->Ac w w'->Aj e w' b v.cells.toList->Af prog n ((d,.pointer (some ⟨b,0,none⟩))::E) w' ops rest Q) (c:RT e=true:=by exact rfl) (g:Nat.blt d n=true:=by exact rfl):
  Af prog n E w ops (⟨some d,.alloc e,ty1,p1,a1,none⟩::⟨none,.store e (.tmp d) (.tmp s),ty2,p2,a2,none⟩::rest) Q:=Af.bn c g j hv next
theorem Ad.bA (d:fn.results=#[.cell t 39]) (g:AR E t=some (.pointer (some ⟨b,0,none⟩))) (c:Aj e w b v.cells.toList) (hv:R4 v) (h:Φ v w):Ad n E w .ret (bodyPost prog fn (AJ Φ)) :=
 Ad.aC A8 [v] d ⟨⟨_,_,_,_,g,c,rfl,rfl,hv.len,by simpa using hv.agg⟩,trivial⟩ h
theorem Ad.retF (d:fn.results=#[.cell t 71]) (g:AR E t=some (.pointer (some ⟨b,0,none⟩))) (c:Aj e w b v.cells.toList) (hv:R4 v) (h:Φ v w):Ad n E w .ret (bodyPost prog fn (AJ Φ)) :=
 Ad.aC A8 [v] d ⟨⟨_,_,_,_,g,c,rfl,rfl,hv.len,by simpa using hv.agg⟩,trivial⟩ h
theorem Ad.bF (d:fn.results=#[.cell t 39,.tmp s]) (j:AR E t=some (.pointer (some ⟨b,0,none⟩))) (g:AR E s=some u) (c:Aj e w b v.cells.toList) (hv:R4 v) (h:Φ (.tuple #[v,u]) w):Ad n E w .ret (bodyPost prog fn (AJ Φ)) :=
 Ad.aC A8 [v,u] d ⟨⟨_,_,_,_,j,c,rfl,rfl,hv.len,by simpa using hv.agg⟩,g,trivial⟩ h
theorem Ad.cE {a:Int}{wv:World}(d:fn.results=#[.cell t 37]) (g:AR E t=some (.pointer (some ⟨b,0,none⟩))) (c:Aj e w b v.cells.toList) (hv:Ao base wv v a) (h:Φ v w):Ad n E w .ret (bodyPost prog fn (AJ Φ)) :=
 Ad.aC A8 [v] d ⟨⟨_,_,_,_,g,c,rfl,rfl,hv.two.1,by simpa using hv.agg⟩,trivial⟩ h
end
def zR:Value:=.agg #[.bool false,.slice none 0 0,.bool false,.slice none 0 0]
theorem GR:R4 zR:=⟨false,.slice none 0 0,false,.slice none 0 0,rfl,rfl,rfl⟩
def AV (vs:List Value):List Value:=vs.flatMap (fun v=>v.cells.toList)
theorem A4F:∀ (vs:List Value),(∀ v ∈ vs,R4 v)->(AV vs).length=4 * vs.length:=by
 intro vs;induction vs with
 | nil=>intro _;rfl
 | cons v vs ih =>
  intro h;have:=ih (fun u hu=>h u (HW _ hu));have c:=(h v sm).len;unfold AV at this ⊢;rw[Jw,Bf,this,c,BR];omega
theorem A6z:∀ (vs:List Value) (i:Nat) (v:Value),(∀ v ∈ vs,R4 v)->vs[i]?=some v->((AV vs).drop (4 * i)).take 4=v.cells.toList:=by
 intro vs;induction vs with
 | nil=>intro i v _ h;simp at h
 | cons u vs ih =>
  intro i v h c;have d:=(h u sm).len;unfold AV;rw[Jw];cases i with
  | zero =>
   simp only[Hq,AP]at c;subst c;rw[Nat.mul_zero,FE,List.take_append_of_le_length oo,Bs oo]
  | succ i =>
   simp only[HY]at c;rw[show 4 * (i+1)=u.cells.toList.length+4 * i by omega,List.drop_append];rw[TN oo,HX,show u.cells.toList.length+4 * i - u.cells.toList.length=4 * i by omega];exact ih i v (fun v hv=>h v (HW _ hv)) c
section
variable {n:Nat}{E:List (Nat×Value)}{w:World}{d:Option Tmp}{x y z i:Operand}{ty:TypeId}{pos:String}{af:Array Edge}{g:Option (Nat×Bool)}{b:Nat}{e:TypeId}{u v k:Value}
theorem A0.dU {len:Nat}(o:ov E x=some (.slice (some ⟨b,0,none⟩) len cap)) (l:ov E i=some (.int .i64 (j:Int))) (m:j<len) :
  A0 prog n ⟨d,.indexAddr 29 x i,ty,pos,af,g⟩ E w (.pointer (some ⟨b,4 * j,none⟩)):=by
 intro a e;have e1:=e.eval o;have e2:=e.eval l;have c:=Ag (P:=prog) (w:=w) A8 (t:=29) rfl;have k:=AK (P:=prog) (w:=w) A8 (t:=39) rfl;dsimp only at c k;have e3:(0:Nat)+j * 4=4 * j:=by omega
 generalize a.eval=ρ at e1 e2;simp[execOp,Instr.indexAt,e1,e2,c,m,asIntOf,Ak,go_sem]
theorem A0.dA (m:ov E x=some (.pointer (some ⟨b,4 * j,none⟩))) (l:Aj e w b (AV vs)) (k:∀ v ∈ vs,R4 v) (c:vs[j]?=some v):A0 prog n ⟨d,.load 39 x,ty,pos,af,g⟩ E w v:=by have hv:=k v (Bi c);have o:=(Au.1 c).1;have:=A0.aA (n:=n) (d:=d) (ty:=ty) (pos:=pos) (af:=af) (g:=g) A8 (t:=39) rfl rfl m l (cs:=v.cells.toList) (by rw[A4F vs k];show 4 * j+4<=_;omega) (A6z vs j v k c);rw[show Value.agg v.cells.toList.toArray=v from by simpa using hv.agg.symm]at this;exact this
theorem Av.dV (j:ov E x=some u) (k:ov E y=some v) (hu:R4 u) (hv:R4 v) :
  Av prog n ⟨d,.buildSlice 29 2 #[(0,x),(1,y)],ty,pos,af,g⟩ E w (fun r w'=>r=.slice (some ⟨w.heap.size,0,none⟩) 2 2/\Aj 39 w' w.heap.size (AV [u,v])/\Ac w w'):=by
 intro a c Q K l;have e0:=c.eval j;have e1:=c.eval k;have g1:=Ag (P:=prog) (w:=w) A8 (t:=29) rfl;have g2:=AK (P:=prog) (w:=w) A8 (t:=39) rfl;obtain⟨_,inf,m,z,q,e⟩:=A8 39 _ rfl;dsimp only at g1 g2 e;obtain⟨n1,s1,m1,t1,rfl,_⟩:=hu;obtain⟨n2,s2,m2,t2,rfl,_⟩:=hv;have o:(execOp a.eval ⟨d,.buildSlice 29 2 #[(0,x),(1,y)],ty,pos,af,g⟩).run prog w=.ok (.value (.slice (some ⟨w.heap.size,0,none⟩) 2 2)) (w.alloc (.cells #[.bool n1,s1,.bool m1,t1,.bool n2,s2,.bool m2,t2] 39 (0,0))):=by generalize a.eval=ρ at e0 e1;simp[execOp,Instr.buildSlice,e0,e1,g1,g2,zeroValue,BZ m,e,Instr.fill,newRow,go_sem]
 unfold Oper.wp;rw[o,Oper.upon_value];exact l _ _ ⟨rfl,DN _ _ _,Da _ _⟩
end
variable {i k:Nat}{M:List (List Int)}{iv:Int}
abbrev DZ (x:Int):Value:=.int .i64 x
def At2 (w:World) (p:Option Addr) (i:Nat) (u:Value):Prop:=∃ b o e C,p=some ⟨b,o,none⟩/\Aj e w b C/\(C.drop (o+2 * i)).take 2=u.cells.toList/\o+2 * i+2<=C.length
theorem At2.ext {w:World}{p:Option Addr}(h:At2 w p i u) (k:Ac w w'):At2 w' p i u:=by obtain⟨b,o,e,C,j,g,c,d⟩:=h;exact⟨b,o,e,C,j,g.ext k,c,d⟩
def LI (w:World) (v:Value) (xs:List Int):Prop:=∃ p cap,v=.slice p xs.length cap/\xs.length<=cap/\∀ (i:Nat) (x:Int),xs[i]?=some x->∃ u,At2 w p i u/\Dn w u x
theorem LI.ext {w:World}{v:Value}{xs:List Int}(h:LI w v xs) (c:Ac w w'):LI w' v xs:=by obtain⟨p,cap,hv,g,j⟩:=h;refine⟨p,cap,hv,g,fun i x k=>?_⟩;obtain⟨u,d,e⟩:=j i x k;exact⟨u,d.ext c,e.ext c⟩
def MI (w:World) (v:Value) (M:List (List Int)):Prop:=∃ rs,Jk 122 w v rs/\rs.length=M.length/\∀ (i:Nat) (r:Value) (row:List Int),rs[i]?=some r->M[i]?=some row->LI w r row
theorem MI.ext {w:World}{v:Value}(h:MI w v M) (c:Ac w w'):MI w' v M:=by obtain⟨rs,d,e,g⟩:=h;exact⟨rs,d.ext c,e,fun i r row a b=>(g i r row a b).ext c⟩
def Nh (w:World) (v:Value) (xs:List Int):Prop:=Jk 2 w v (xs.map DZ)
def Ft (w:World) (v:Value) (M:List (List Int)):Prop:=∃ rs,Jk 33 w v rs/\rs.length=M.length/\∀ (i:Nat) (r:Value) (row:List Int),rs[i]?=some r->M[i]?=some row->Nh w r row
theorem Nh.ext {w:World}{v:Value}{xs:List Int}(h:Nh w v xs) (c:Ac w w'):Nh w' v xs:=Jk.ext h c
theorem Ft.ext {w:World}{v:Value}(h:Ft w v M) (c:Ac w w'):Ft w' v M:=by obtain⟨rs,d,e,g⟩:=h;exact⟨rs,d.ext c,e,fun i r row a b=>(g i r row a b).ext c⟩
theorem Ft.row {w:World}{v:Value}(h:Ft w v M) {row:List Int}(c:M[i]?=some row):∃ rs r,Jk 33 w v rs/\rs[i]?=some r/\Nh w r row:=by
 obtain⟨rs,e,j,g⟩:=h;have k:=(Au.1 c).1;have d:rs[i]?=some (rs[i]'oo):=by simp
 exact⟨rs,_,e,d,g i _ row d c⟩
theorem MI.len {w:World}{v:Value}(h:MI w v M):∃ p cap,v=.slice p M.length cap:=by obtain⟨rs,c,d,_⟩:=h;obtain⟨p,cap,hv⟩:=c.len;exact⟨p,cap,by rw[hv,d]⟩
theorem Ft.len {w:World}{v:Value}(h:Ft w v M):∃ p cap,v=.slice p M.length cap:=by obtain⟨rs,c,d,_⟩:=h;obtain⟨p,cap,hv⟩:=c.len;exact⟨p,cap,by rw[hv,d]⟩
theorem Nh.len {w:World}{v:Value}{xs:List Int}(h:Nh w v xs):∃ p cap,v=.slice p xs.length cap:=by obtain⟨p,cap,hv⟩:=Jk.len h;exact⟨p,cap,by rw[hv];simp⟩
theorem LI.get {w:World}{v:Value}{xs:List Int}(h:LI w v xs) {x:Int}(l:xs[i]?=some x):∃ b o cap u e C,v=.slice (some ⟨b,o,none⟩) xs.length cap/\Dn w u x/\Aj e w b C/\(C.drop (o+2 * i)).take 2=u.cells.toList/\o+2 * i+2<=C.length:=by obtain⟨p,cap,hv,q,k⟩:=h;obtain⟨u,⟨b,o,e,C,m,g,c,d⟩,j⟩:=k i x l;subst m;exact⟨b,o,cap,u,e,C,hv,j,g,c,d⟩
section
variable {n:Nat}{E:List (Nat×Value)}{w:World}{d:Option Tmp}{x i:Operand}{ty:TypeId}{pos:String}{af:Array Edge}{g:Option (Nat×Bool)}
theorem A0.aQ {o len:Nat}(r:ov E x=some (.slice (some ⟨b,o,none⟩) len cap)) (l:ov E i=some (.int .i64 iv)) (m:iv=j) (q:j<len) :
  A0 prog n ⟨d,.indexAddr 122 x i,ty,pos,af,g⟩ E w (.pointer (some ⟨b,o+2 * j,none⟩)):=by subst m;intro a k;have e1:=k.eval r;have e2:=k.eval l;have c:=Ag (P:=prog) (w:=w) A8 (t:=122) rfl;have e:=AK (P:=prog) (w:=w) A8 (t:=37) rfl;dsimp only at c e;have e3:j * 2=2 * j:=AQ _ _;generalize a.eval=ρ at e1 e2;simp[execOp,Instr.indexAt,e1,e2,c,e,q,asIntOf,Ak,e3,go_sem]
theorem rJ {o len:Nat}(k:j<len) (l:ov E x=some (.slice (some ⟨b,o,none⟩) len cap):=by exact rfl) (c:ov E i=some (.int .i64 iv):=by exact rfl) (e:iv=j:=by exact rfl):
  A0 prog n ⟨d,.indexAddr 122 x i,ty,pos,af,g⟩ E w (.pointer (some ⟨b,o+2 * j,none⟩)):=A0.aQ l c e k
theorem A0.aH {o:Nat}(q:ov E x=some (.pointer (some ⟨b,o+2 * j,none⟩))) (m:Aj e w b C) (c:(C.drop (o+2 * j)).take 2=u.cells.toList) (l:o+2 * j+2<=C.length) (hu:R2 u) :
  A0 prog n ⟨d,.load 37 x,ty,pos,af,g⟩ E w u:=by have:=A0.aA (n:=n) (d:=d) (ty:=ty) (pos:=pos) (af:=af) (g:=g) A8 (t:=37) rfl rfl q m (cs:=u.cells.toList) l c;obtain⟨k,s,rfl,_⟩:=hu;exact this
end
section
variable {n:Nat}{E:List (Nat×Value)}{w:World}{ops:Array Oper}{rest:List Oper}{Q:Exit->Act->World->Prop}{d1 d2:Nat}{x i:Operand}{ty ty2:TypeId}{pos pos2:String}{af af2:Array Edge}{g g2:Option (Nat×Bool)}
end
theorem A3e:∀ (vs:List Value),(∀ v ∈ vs,v.cells.toList.length=k)->(AV vs).length=k * vs.length:=by
 intro vs;induction vs with
 | nil=>intro _;rfl
 | cons v vs ih =>
  intro h;have:=ih (fun u hu=>h u (HW _ hu));have c:=h v sm;unfold AV at this ⊢;rw[Jw,Bf,this,c,BR,PV];omega
theorem Ni:∀ (vs:List Value) (D:List Value) (i:Nat) (v:Value),(∀ v ∈ vs,v.cells.toList.length=k)->vs[i]?=some v->((AV vs++D).drop (k * i)).take k=v.cells.toList:=by
 intro vs;induction vs with
 | nil=>intro D i v _ h;simp at h
 | cons u vs ih =>
  intro D i v h c;have d:=h u sm;unfold AV;rw[Jw,EO];cases i with
  | zero =>
   simp only[Hq,AP]at c;subst c;rw[Nat.mul_zero,FE,List.take_append_of_le_length oo,Bs oo]
  | succ i =>
   simp only[HY]at c;rw[show k * (i+1)=u.cells.toList.length+k * i by rw[d,PV];omega,List.drop_append];rw[TN oo,HX,show u.cells.toList.length+k * i - u.cells.toList.length=k * i by omega];exact ih D i v (fun v hv=>h v (HW _ hv)) c
theorem OY:∀ (vs A B:List Value) (o:Nat),Fl (A++B) (A.length+o) vs=A++Fl B o vs:=by
 intro vs;induction vs with
 | nil=>intro A B o;rfl
 | cons v vs ih =>
  intro A B o;simp only[Fl];rw[TK _ _ oo,show A.length+o - A.length=o by omega,show A.length+o+1=A.length+(o+1) by omega,ih]
theorem Wt:∀ (vs C B:List Value),C.length=vs.length->Fl (C++B) 0 vs=vs++B:=by
 intro vs;induction vs with
 | nil=>intro C B h;rw[FA h];rfl
 | cons v vs ih =>
  intro C B h;cases C with
  | nil=>simp at h
  | cons c C =>
   simp only[Fl];have e:=OY vs [v] (C++B) 0;have:=ih C B (by simpa using h);simp only[Kk,Ep,List.singleton_append]at e;rw[Hh,TL,e,this];rfl
theorem L7:∀ (vs:List Value) (D:List Value) (j:Nat) (u:Value),(∀ v ∈ vs,v.cells.toList.length=k)->j<vs.length->u.cells.toList.length=k->Fl (AV vs++D) (k * j) u.cells.toList=AV (vs.set j u)++D:=by
 intro vs;induction vs with
 | nil=>intro D j u _ h;simp at h
 | cons v vs ih =>
  intro D j u h d hu;have c:=h v sm;cases j with
  | zero =>
   show Fl (AV (v::vs)++D) 0 u.cells.toList=AV (u::vs)++D;unfold AV;rw[Jw,Jw,EO,EO,Wt _ _ _ oo]
  | succ j =>
   have:=ih D j u (fun v hv=>h v (HW _ hv)) (by simpa using d) hu;show Fl (AV (v::vs)++D) (k * (j+1)) u.cells.toList=AV (v::vs.set j u)++D;unfold AV at this ⊢;rw[Jw,Jw,EO,EO,show k * (j+1)=v.cells.toList.length+k * j by rw[c,PV];omega,OY,this]
variable {base':Nat}{us rs D:List Value}{g2:Option (Nat×Bool)}
def M8 (k:Nat) (us:List Value):Prop:=∀ u ∈ us,u.cells.toList.length=k/\∀ c ∈ u.cells.toList,c.oneCell'=true
def Aq (k:Nat) (e:TypeId) (base:Nat) (w:World) (v:Value) (us:List Value):Prop :=
 M8 k us/\((v=.slice none 0 0/\us=[])\/∃ g cap D,v=.slice (some ⟨g,0,none⟩) us.length cap/\base<=g/\Aj e w g (AV us++D)/\k * us.length+D.length=cap * k/\us.length<=cap/\cap<=maxLen)
section
variable {k:Nat}{e:TypeId}{base:Nat}{w w':World}{v:Value}{us:List Value}
theorem Aq.ext (h:Aq k e base w v us) (c:Ac w w'):Aq k e base w' v us:=by
 refine⟨h.1,?_⟩;rcases h.2 with h0 | ⟨g,cap,D,hv,hg,hb,r⟩
 ·exact .inl h0
 ·exact .inr ⟨g,cap,D,hv,hg,hb.ext c,r⟩
theorem Aq.mono (h:Aq k e base w v us) (c:base'<=base):Aq k e base' w v us:=by
 refine⟨h.1,?_⟩;rcases h.2 with h0 | ⟨g,cap,D,hv,hg,r⟩
 ·exact .inl h0
 ·exact .inr ⟨g,cap,D,hv,by omega,r⟩
theorem Aq.upd (h:Aq k e base w v us) (hu:CE b w w') (c:v.ownBlock≠some b):Aq k e base w' v us:=by
 refine⟨h.1,?_⟩;rcases h.2 with h0 | ⟨g,cap,D,hv,hg,hb,r⟩
 ·exact .inl h0
 ·refine .inr ⟨g,cap,D,hv,hg,hb.upd hu ?_,r⟩;intro e;subst e;apply c;rw[hv];rfl
theorem Aq.aI (h:Aq k e base w v us) (hu:CE b w w') (c:Aj t w b C) (d:e≠t):Aq k e base w' v us:=by
 refine h.upd hu ?_;intro e1;rcases h.2 with ⟨h0,_⟩ | ⟨g,cap,D,hv,hg,hbg,r⟩
 ·rw[h0]at e1;cases e1
 ·rw[hv]at e1;have e2:g=b:=by simpa[Value.ownBlock] using e1
  subst e2;have:=hbg.symm.trans c;simp only[AP,Obj.cells.injEq]at this;exact d this.2.1
theorem Aq.nil:Aq k e base w (.slice none 0 0) []:=⟨fun u hu=>(by cases hu),.inl ⟨rfl,rfl⟩⟩
theorem Aq.open (h:Aq k e base w v us) (c:us≠[]):∃ g cap D,v=.slice (some ⟨g,0,none⟩) us.length cap/\base<=g/\Aj e w g (AV us++D)/\k * us.length+D.length=cap * k/\us.length<=cap/\cap<=maxLen:=by
 rcases h.2 with ⟨_,h0⟩ | h
 ·exact absurd h0 c
 ·exact h
theorem Aq.len (h:Aq k e base w v us):∃ p cap,v=.slice p us.length cap:=by
 rcases h.2 with ⟨hv,h0⟩ | ⟨g,cap,D,hv,_⟩
 ·exact⟨none,0,by rw[hv,h0];rfl⟩
 ·exact⟨_,cap,hv⟩
theorem M8.flat (h:M8 k us):(Go.Qf.AV us).length=k * us.length:=A3e us (fun u hu=>(h u hu).1)
theorem M8.set (h:M8 k us) (hu:u.cells.toList.length=k/\∀ c ∈ u.cells.toList,c.oneCell'=true):M8 k (us.set j u):=by
 intro x d;rcases LF d with h1 | h1
 ·exact h x h1
 ·subst h1;exact hu
theorem Aq.put {g:Nat}(h:M8 k us) (q:base<=g) (hu:u.cells.toList.length=k/\∀ c ∈ u.cells.toList,c.oneCell'=true) (r:j<us.length) (d:Aj e w' g (Fl (Go.Qf.AV us++D) (k * j) u.cells.toList)) (l:k * us.length+D.length=cap * k) (m:us.length<=cap) (o:cap<=maxLen) :
  Aq k e base w' (.slice (some ⟨g,0,none⟩) us.length cap) (us.set j u):=by refine⟨h.set hu,.inr ⟨g,cap,D,by rw[EP],q,?_,by rw[EP];exact l,by rw[EP];exact m,o⟩⟩;rw[L7 us D j u (fun v hv=>(h v hv).1) r hu.1]at d;exact d
theorem CO:∀ (us:List Value),(∀ u ∈ us,u.cells=#[u])->AV us=us:=by
 intro us;induction us with
 | nil=>intro _;rfl
 | cons u us ih =>
  intro h;unfold AV at ih ⊢;rw[Jw,ih (fun x c=>h x (HW _ c)),h u sm];rfl
theorem Aq.row (h:Aq 1 e base w v us) (k:∀ u ∈ us,u.cells=#[u]):Jk e w v us:=by
 rcases h.2 with ⟨hv,h0⟩ | ⟨g,cap,D,hv,hg,hb,h1,h2,h3⟩
 ·subst h0;exact⟨none,0,hv,Ai _,fun _=>rfl,fun a d=>by cases d⟩
 ·rw[CO us k]at hb;refine⟨_,cap,hv,h2,fun l=>(by cases l),fun a d i c j=>?_⟩;cases d;rw[Ak,AE];exact hb.cell (by rw[BM (Au.1 j).1];exact j)
end
theorem Aq.li {w:World}{v:Value}{xs:List Int}(h:Aq 2 37 base w v us) (d:us.length=xs.length) (e:∀ (i:Nat) (u:Value) (x:Int),us[i]?=some u->xs[i]?=some x->Dn w u x):LI w v xs:=by
 rcases h.2 with ⟨hv,h0⟩ | ⟨g,cap,D,hv,hg,hb,h1,h2,h3⟩
 ·subst h0;have:xs=[]:=FA d.symm;subst this;exact⟨none,0,hv,Ai _,fun i x c=>by simp at c⟩
 ·refine⟨_,cap,by rw[hv,d],by omega,fun i x c=>?_⟩;have j:i<us.length:=by have:=(Au.1 c).1;omega
  have hu:us[i]?=some us[i]:=by simp
  refine⟨us[i],⟨g,0,_,_,rfl,hb,?_,?_⟩,e i _ x hu c⟩
  ·rw[AE];exact Ni us D i _ (fun u hu=>(h.1 u hu).1) hu
  ·rw[Bf,h.1.flat];omega
def DE (k:Nat) (te e:TypeId) (base:Nat) (w:World) (v:Value) (rs:List Value) (R:List (List Value)):Prop :=
 Aq 1 te base w v rs/\rs.length=R.length/\(∀ r ∈ rs,r.cells=#[r])/\(∀ (i:Nat) (r:Value) (us:List Value),rs[i]?=some r->R[i]?=some us->Aq k e base w r us)/\∀ (i j:Nat) (r s:Value),i≠j->rs[i]?=some r->rs[j]?=some s->r.ownBlock=s.ownBlock->r.ownBlock=none
section
variable {k:Nat}{te e:TypeId}{base:Nat}{w w':World}{v:Value}{rs:List Value}{R:List (List Value)}
theorem DE.ext (h:DE k te e base w v rs R) (c:Ac w w'):DE k te e base w' v rs R:=by obtain⟨d,g,j,l,m⟩:=h;exact⟨d.ext c,g,j,fun i r us a b=>(l i r us a b).ext c,m⟩
theorem DE.mono (h:DE k te e base w v rs R) (c:base'<=base):DE k te e base' w v rs R:=by obtain⟨d,g,j,l,m⟩:=h;exact⟨d.mono c,g,j,fun i r us a b=>(l i r us a b).mono c,m⟩
theorem DE.len (h:DE k te e base w v rs R):∃ p cap,v=.slice p R.length cap:=by obtain⟨p,cap,hv⟩:=h.1.len;exact⟨p,cap,by rw[hv,h.2.1]⟩
theorem DE.rows (h:DE k te e base w v rs R):Jk te w v rs:=h.1.row h.2.2.1
theorem DE.put (h:DE k te e base w v rs R) (F:te≠e) {r:Value}(o:rs[i]?=some r) (f:R[i]?=some us) (m:j<us.length) (hu:u.cells.toList.length=k/\∀ c ∈ u.cells.toList,c.oneCell'=true) :
  ∃ g cap D,r=.slice (some ⟨g,0,none⟩) us.length cap/\base<=g/\Aj e w g (AV us++D)/\k * us.length+D.length=cap * k/\us.length<=cap /\
   ∀ w',CE g w w'->Aj e w' g (Fl (AV us++D) (k * j) u.cells.toList)->DE k te e base w' v rs (R.set i (us.set j u)):=by
 obtain⟨s,x,A,q,y⟩:=h;have E:=(Au.1 f).1;have n:=q i _ us o f;obtain⟨g,cap,D,hv,b,z,t,a,C⟩:=n.open (by intro e;rw[e]at m;simp at m);refine⟨g,cap,D,hv,b,z,t,a,fun w' p B=>⟨s.aI p z F,by simpa using x,A,?_,y⟩⟩;intro i' r' G d l;by_cases e1:i=i'
 ·subst e1;rw[Bx E]at l;cases l;rw[o]at d;cases d;rw[hv];exact Aq.put (e:=e) (base:=base) (w':=w') n.1 b hu m B t a C
 ·rw[Ce e1]at l;refine (q i' r' G d l).upd p ?_;intro e2;have:=y i i' _ r' e1 o d (by rw[hv,e2];rfl);rw[hv]at this;cases this
end
def BH (rs:List Value) (base:Nat) (w:World) (v:Value) (M:List (List Int)):Prop :=
 ∃ R,DE 2 122 37 base w v rs R/\R.length=M.length/\∀ (i:Nat) (us:List Value) (row:List Int),R[i]?=some us->M[i]?=some row->us.length=row.length/\∀ (j:Nat) (u:Value) (x:Int),us[j]?=some u->row[j]?=some x->Ao 0 w u x
def DK (rs:List Value) (base:Nat) (w:World) (v:Value) (M:List (List Int)):Prop :=
 DE 1 33 2 base w v rs (M.map (fun row=>row.map DZ))
theorem BH.ext {w:World}{v:Value}(h:BH rs base w v M) (e:Ac w w'):BH rs base w' v M:=by obtain⟨R,g,k,l⟩:=h;refine⟨R,g.ext e,k,fun i us row a b=>?_⟩;obtain⟨k1,k2⟩:=l i us row a b;exact⟨k1,fun j u x c d=>(k2 j u x c d).ext e⟩
theorem BH.mono {w:World}{v:Value}(h:BH rs base w v M) (g:base'<=base):BH rs base' w v M:=by obtain⟨R,c,d,e⟩:=h;exact⟨R,c.mono g,d,e⟩
theorem BH.len {w:World}{v:Value}(h:BH rs base w v M):∃ p cap,v=.slice p M.length cap:=by obtain⟨R,c,d,e⟩:=h;rw[<- d];exact c.len
theorem BH.rsl {w:World}{v:Value}(h:BH rs base w v M):rs.length=M.length:=by obtain⟨R,c,d,e⟩:=h;rw[<- d,c.2.1]
theorem BH.rows {w:World}{v:Value}(h:BH rs base w v M):Jk 122 w v rs:=by obtain⟨R,c,_⟩:=h;exact c.rows
theorem BH.one {w:World}{v:Value}(h:BH rs base w v M):∀ r ∈ rs,r.cells=#[r]:=by obtain⟨R,c,_⟩:=h;exact c.2.2.1
theorem BH.mi {w:World}{v:Value}(h:BH rs base w v M) (m:∀ row ∈ M,∀ x ∈ row,sz x<=1000000):MI w v M:=by
 obtain⟨R,c,g,k⟩:=h;refine⟨rs,c.rows,by rw[c.2.1,g],fun i r row l d=>?_⟩;have o:i<R.length:=by have:=(Au.1 d).1;omega
 have e:R[i]?=some R[i]:=by simp
 obtain⟨k1,k2⟩:=k i _ row e d;exact (c.2.2.2.1 i r _ l e).li k1 (fun j u x a b=>(k2 j u x a b).dn (m row (Bi d) x (Bi b)))
theorem Af.putM2 {w:World}{s:Nat}{I:Operand}{pos:String}{g1:Option (Nat×Bool)}
 {v r:Value} {row:List Int} {y:Int} (h:BH rs base w v M) (H:rs[i]?=some r) (f:M[i]?=some row) (hj:j<row.length) (hu:Ao 0 w u y) (Y:Ac w0 w) (ha:w0.heap.size<=base)
  (X:ov E x=some r) (K:ov E I=some (.int .i64 iv)) (O:iv=j) (W:∀ p,AR ((d1,p)::E) s=some u) (L:Bg ops E g1=some true) (T:Nat.blt d1 n=true) (N:∀ p,Bg ops ((d1,p)::E) g2=some true)
  (next:∀ p w',Ac w0 w'->BH rs base w' v (M.set i (row.set j y))->(∀ t b C,Aj t w b C->r.ownBlock≠some b->Aj t w' b C)->(∀ bs u' a',Ao bs w u' a'->Ao bs w' u' a')->Af prog n ((d1,p)::E) w' ops rest Q) :
  Af prog n E w ops (⟨some d1,.indexAddr 122 x I,ty,pos,af,g1⟩::⟨none,.store 37 (.tmp d1) (.tmp s),ty2,pos2,af2,g2⟩::rest) Q:=by
 obtain⟨R,A,J,B⟩:=h;have S:i<R.length:=by have:=(Au.1 f).1;omega
 have o:R[i]?=some R[i]:=by simp
 obtain⟨k1,k2⟩:=B i _ row o f;have G:j<(R[i]).length:=by omega
 obtain⟨g,cap,D,rfl,hf,q,hd,he,V⟩:=A.put de H o G (u:=u) hu.two;refine Af.step rfl L T (A0.aQ X K O G).op ?_;rintro _ _ ⟨rfl,rfl⟩;have P:=(A.2.2.2.1 i _ _ H o).1.flat;refine Af.step0 rfl (N _) (Av.store (E:=(d1,_)::E) (x:=.tmp d1) (y:=.tmp s) (off:=0+2 * j) A8 rfl (AF _ _ _) (W _) rfl hu.two.1 q (by rw[Bf,P,hu.two.1];omega) hu.two.2) ?_;rintro _ w' ⟨F,c⟩;rw[AE]at F;refine next _ w' (Y.aj c oo) ⟨_,V w' c F,by simpa using J,?_⟩ (fun t b C hB U=>hB.upd c (by intro e;subst e;exact U rfl)) (fun bs u' a' z=>z.aI c q de)
 intro i' Z row' l d;have keep:∀ (u':Value) (x':Int),Ao 0 w u' x'->Ao 0 w' u' x':=fun u' x' z=>z.aI c q de;by_cases e1:i=i'
 ·subst e1;rw[Bx S]at l;rw[Bx (by have:=(Au.1 f).1;omega)]at d;cases l;cases d;refine⟨by simpa using k1,fun j' u' x' k m=>?_⟩;by_cases e2:j=j'
  ·subst e2;rw[Bx oo]at k m;cases k;cases m;exact keep _ _ hu
  ·rw[Ce e2]at k m;exact keep _ _ (k2 j' u' x' k m)
 ·rw[Ce e1]at l d;obtain⟨q1,q2⟩:=B i' Z row' l d;exact⟨q1,fun j' u' x' a b=>keep _ _ (q2 j' u' x' a b)⟩
theorem Af.dL {w:World}{s:Nat}{I:Operand}{pos:String}{g1:Option (Nat×Bool)}
 {v r:Value} {row:List Int} {y:Int} (h:BH rs base w v M) (t:rs[i]?=some r) (m:M[i]?=some row) (q:j<row.length) (hu:Ao 0 w u y) (f:Ac w0 w) (g:w0.heap.size<=base)
  (b:ov E x=some r) (e:ov E I=some (.int .i64 iv)) (o:iv=j) (a:∀ p,AR ((d1,p)::E) s=some u) (k:Bg ops E g1=some true) (z:Nat.blt d1 n=true) (l:∀ p,Bg ops ((d1,p)::E) g2=some true)
  (next:∀ p w',Ac w0 w'->BH rs base w' v (M.set i (row.set j y))->Af prog n ((d1,p)::E) w' ops rest Q) :
  Af prog n E w ops (⟨some d1,.indexAddr 122 x I,ty,pos,af,g1⟩::⟨none,.store 37 (.tmp d1) (.tmp s),ty2,pos2,af2,g2⟩::rest) Q :=
 Af.putM2 h t m q hu f g b e o a k z l fun p w' c d _ _=>next p w' c d
theorem A2l (xs:List Nat):∀ c ∈ xs.map Dr,c.oneCell'=true:=by intro c d;simp only[CG]at d;obtain⟨x,_,rfl⟩:=d;rfl
theorem Dq (w:World) (v:Value) (xs:List Nat) (h:Sl w v xs) (n:xs.length<=1000000000) (y:base<=w.heap.size) :
  Calls prog 118 #[v] w (AJ fun r w'=>Ac w w'/\Ei base w' r (Ae (Ah xs))):=by
 obtain⟨p,cap,rfl,i⟩:=h.form;refine cS func118 ntmps118 ?_;refine A7 ?_;refine St.loop (fun k:Nat=>[(0,.slice p xs.length cap),(3,.int .i64 k)]) (fun k w'=>w'=w/\k<=xs.length/\∀ j,k<=j->j<xs.length->xs[j]?=some 0) (fun k=>k) xs.length ⟨rfl,rfl,trivial⟩ ⟨rfl,Ai _,fun j b u=>by omega⟩ ?_;rintro k w' ⟨rfl,d,q⟩;by_cases t:k=0
 ·subst t;refine Nv ?_;refine .a 3 (.bool false) rfl (A9 oo) ?_;refine A7 ?_;refine .cF ?_;refine Nv ?_;refine .r rfl ?_;refine .p (A0.bp A8 rfl rfl rfl rfl oo oo) ?_;have e:Ae (Ah xs)=xs.take 0:=HZ xs h.2 0 q d (.inl rfl);have c:=h.cut 0 d;refine .s (Av.append A8 rfl rfl rfl rfl rfl rfl (Gh.nil base _ _) c.1 sm sm sm y) ?_;rintro v' w2 ⟨o,l,_⟩;refine A7 ?_;refine uR ⟨(Ac.refl _).grown (Gh.nil w'.heap.size 109 _) AO l,?_⟩;rw[e];exact⟨o,c.2⟩
 ·obtain⟨m,rfl⟩:∃ m,k=m+1:=⟨k - 1,by omega⟩;have g:xs[m]?=some xs[m]:=by simp
  generalize xs[m]=x at g;have e1:IntKind.i64.wrap ((((m+1:Nat):Nat):Int) - 1)=m:=by rw[Ab oo oo];omega
  refine Nv ?_;refine .a 3 (.bool true) rfl (Aa oo) ?_;refine .r rfl ?_;refine Af.elem A8 m (Dr x) h.1 (h.get g) e1 rfl rfl rfl rfl rfl rfl rfl rfl rfl rfl (fun _=>rfl) ?_;intro p1;refine .r rfl ?_;(refine Af.nil ?_;repeat with_reducible first | refine Ad.ak ?_ | refine Ad.aL ?_);by_cases z:x=0
  ·subst z;refine .ct ?_;refine Ad.again m ⟨rfl,?_,trivial⟩ ⟨rfl,by omega,fun j b u=>?_⟩ (LG m)
   ·show some (Value.int .i64 (IntKind.i64.wrap ((((m+1:Nat):Nat):Int) - 1)))=_;rw[e1]
   ·by_cases f:j=m
    ·subst f;exact g
    ·exact q j oo u
  ·refine St.ay rfl (by simp;omega) ?_;have e:Ae (Ah xs)=xs.take (m+1):=HZ xs h.2 (m+1) q d (.inr ⟨x,by simpa using g,z⟩);have c:=h.cut (m+1) d;refine Nv ?_;refine .r rfl ?_;refine .p (A0.bp A8 rfl rfl rfl rfl oo oo) ?_;refine .s (Av.append A8 rfl rfl rfl rfl rfl rfl (Gh.nil base _ _) c.1 (A2l _) (by simp;omega) (by simp;omega) y) ?_;rintro v' w2 ⟨o,l,_⟩;refine A7 ?_;refine uR ⟨(Ac.refl _).grown (Gh.nil w'.heap.size 109 _) AO l,?_⟩;rw[e];exact⟨o,c.2⟩
theorem DR (w:World) (neg:Bool) (v:Value) (xs:List Nat) (h:Sl w v xs) (t:xs.length<=1000000000) (z:base<=w.heap.size) :
  Calls prog 74 #[.bool neg,v] w (AJ fun r w'=>Ac w w'/\Ao base w' r (sg neg (Ah xs))):=by
 refine cS func74 ntmps74 ?_;refine Nv ?_;refine .s (oA) ?_;rintro _ w1 ⟨rfl,y,l,b⟩;refine A7 ?_;refine .s (oK CU (Dq (base:=base) w1 v xs EC t (Ar z l.size))) ?_;rintro sl w2 ⟨m,k⟩;obtain⟨p,cap,rfl,_⟩:=k.sl.form;have c:Ao base w2 (FM (decide (sg neg (Ah xs)<0)) (.slice p (Ae (Ah xs)).length cap)) (sg neg (Ah xs)):=by
  refine⟨p,cap,?_,?_⟩
  ·rw[Gf]
  ·rw[Gf];exact k
 have fin:∀ {E:List (Nat×Value)} {ops:Array Oper} {af:Array Edge} {pos:String} {Q:Exit->Act->World->Prop},AR E 4=some (.pointer (some ⟨w.heap.size,0,none⟩))->AR E 15=some (FM (decide (sg neg (Ah xs)<0)) (.slice p (Ae (Ah xs)).length cap)) ->
   (∀ w',Ac w w'->Ao base w' (FM (decide (sg neg (Ah xs)<0)) (.slice p (Ae (Ah xs)).length cap)) (sg neg (Ah xs))->(∀ (fn:Func) (Φ:Value->World->Prop),fn.results=#[.cell 4 37]->Φ (FM (decide (sg neg (Ah xs)<0)) (.slice p (Ae (Ah xs)).length cap)) w'->Ad 16 E w' .ret (bodyPost prog fn (AJ Φ)))->Ad 16 E w' .normal Q) ->
   Af prog 16 E w2 ops [⟨none,.store 37 (.tmp 4) (.tmp 15),0,pos,af,none⟩] Q :=
  fun q o u=>Af.aJ q o (y.ext m) rfl c (l.trans m) AO u
 cases neg with
 | false =>
  refine A7 ?_;refine .p (rB) ?_;have e:decide (sg false (Ah xs)<0)=false:=decide_eq_false (by simp[sg]);rw[e]at fin c;refine fin rfl rfl ?_;intro w' g d fin;refine Nv ?_;exact fin _ _ rfl ⟨g,d⟩
 | true =>
  have e:decide (sg true (Ah xs)<0)=decide (((Ae (Ah xs)).length:Int) > 0):=by
   by_cases j:Ah xs=0
   ·rw[j];rfl
   ·have a:0<(Ae (Ah xs)).length:=by
     rcases Gu (Ae (Ah xs)).length with e | e
     ·exact absurd (CQ.1 (FA e)) j
     ·exact e
    rw[decide_eq_true (show sg true (Ah xs)<0 by simp[sg];omega),decide_eq_true oo]
  rw[e]at fin c;refine A7 ?_;refine .p (rB) ?_;refine fin rfl rfl ?_;intro w' g d fin;refine Nv ?_;exact fin _ _ rfl ⟨g,d⟩
theorem M9 (w:World) (neg:Bool) (m:Nat) (q:m<18446744073709551616) (l:base<=w.heap.size) :
  Calls prog 40 #[.bool neg,.int .u64 m] w (AJ fun r w'=>Ac w w'/\Ao base w' r (sg neg m)):=by
 refine cS func40 ntmps40 ?_;refine Nv ?_;refine .s (oA) ?_;rintro _ w1 ⟨rfl,k,g,z⟩;refine A7 ?_;have e1:IntKind.u32.wrap (m:Int)=((m % 4294967296:Nat):Int):=by rw[CJ];omega
 have e2:IntKind.u32.wrap ((m:Int) / 2 ^ 32)=((m / 4294967296 % 4294967296:Nat):Int):=by rw[CJ,show ((2:Int) ^ 32)=4294967296 from rfl];omega
 refine .s (Av.pair A8 rfl rfl rfl rfl rfl) ?_;rintro _ w2 ⟨rfl,d,c,t⟩;rw[e1,e2]at d;have u:Sl w2 (.slice (some ⟨w1.heap.size,0,none⟩) 2 2) [m % 4294967296,m / 4294967296 % 4294967296] :=
  ⟨d.row rfl sm sm rfl,by intro x v;simp at v;omega⟩
 refine .s (oK CT (DR (base:=base) w2 neg _ _ u sm (Ar l (g.trans c).size))) ?_;rintro r w3 ⟨j,e⟩;rw[XB m q]at e;refine Af.aJ rfl rfl ((k.ext c).ext j) rfl e ((g.trans c).trans j) AO ?_;intro w' y o fin;refine Nv ?_;exact fin _ _ rfl ⟨y,o⟩
theorem Ba (w:World) (a:Int) (o:-9223372036854775808<=a) (q:a<=9223372036854775807) (k:base<=w.heap.size) :
  Calls prog 15 #[.int .i64 a] w (AJ fun r w'=>Ac w w'/\Ao base w' r a):=by
 refine cS func15 ntmps15 ?_;refine Nv ?_;refine .s (oA) ?_;rintro _ w1 ⟨rfl,j,d,y⟩;refine A7 ?_;by_cases u:a<0
 ·refine St.aD rfl (by simp;omega) ?_;refine A7 ?_;obtain⟨m,l⟩:∃ m:Nat,a=-(m:Int):=⟨a.natAbs,by omega⟩;subst l;refine .a 1 (.int .u64 (m:Int)) rfl (by congr 1;simp only[Cz];omega) ?_;refine .s (oK Ko (M9 (base:=base) w1 true m oo (Ar k d.size))) ?_;rintro v w3 ⟨c,hv⟩;refine Af.aJ rfl rfl (j.ext c) rfl hv (d.trans c) AO ?_;intro w' g e fin;refine Nv ?_;exact fin _ _ rfl ⟨g,e⟩
 ·refine St.ay rfl (by simp;omega) ?_;refine A7 ?_;obtain⟨m,rfl⟩:∃ m:Nat,a=(m:Int):=⟨a.natAbs,by omega⟩;refine .a 1 (.int .u64 (m:Int)) rfl (by rw[BG oo oo]) ?_;refine .s (oK Ko (M9 (base:=base) w1 false m oo (Ar k d.size))) ?_;rintro v w3 ⟨c,hv⟩;refine Af.aJ rfl rfl (j.ext c) rfl hv (d.trans c) AO ?_;intro w' g e fin;refine Nv ?_;exact fin _ _ rfl ⟨g,e⟩
variable {b2 b1:Nat}
def Zz (xs ys:List Nat):Int:=if xs.length<ys.length then -1 else if ys.length<xs.length then 1 else GY (Ah xs) (Ah ys)
theorem Pw (a b:Nat):Zz (Ae a) (Ae b)=GY a b:=by
 unfold Zz;rw[Al,Al];split
 ·rename_i c;have:=ES c;simp[GY,this]
 ·split
  ·rename_i _ d;have:=ES d;unfold GY;rw[if_neg oo,if_pos this]
  ·rfl
theorem ZA:∀ {xs ys:List Nat},EB xs->EB ys->xs.length=ys.length->Ah xs=Ah ys->xs=ys:=by
 intro xs;induction xs with
 | nil=>intro ys _ _ c _;exact (FA c.symm).symm
 | cons x r ih =>
  intro ys d g c hv;cases ys with
  | nil=>simp at c
  | cons y s =>
   obtain⟨k,e⟩:=EB.cons.1 d;obtain⟨l,j⟩:=EB.cons.1 g;simp only[Ah]at hv;have e1:x=y:=by omega
   have e2:Ah r=Ah s:=by omega
   rw[e1,ih e j (by simpa using c) e2]
theorem A6A {ys:List Nat}(c:EB xs) (d:EB ys):Zz xs ys=0↔xs=ys:=by
 unfold Zz;constructor
 ·intro h;split at h
  ·omega
  ·split at h
   ·omega
   ·refine ZA c d oo ?_;unfold GY at h;split at h
    ·omega
    ·split at h
     ·omega
     ·omega
 ·rintro rfl;simp[GY]
theorem Oe (w:World) (u v:Value) (xs ys:List Nat) (h:Sl w u xs) (k:Sl w v ys) (C:xs.length<=1000000000) (B:ys.length<=1000000000) :
  Calls prog 134 #[u,v] w (AJ fun r w'=>Ac w w'/\r=.int .i64 (Zz xs ys)):=by
 obtain⟨p,c,rfl,_⟩:=h.form;obtain⟨q,d,rfl,_⟩:=k.form;obtain⟨R,e⟩:∃ R,R=Zz xs ys:=⟨_,rfl⟩;rw[<- e];unfold Zz at e;refine cS func134 ntmps134 ?_;refine A7 ?_;by_cases t:xs.length=ys.length
 ·rw[if_neg oo,if_neg oo]at e;refine St.ay rfl (by simp;omega) ?_;refine A7 ?_;refine St.loop (fun j:Nat=>[(0,.slice p xs.length c),(1,.slice q ys.length d),(5,.int .i64 ((j:Int) - 1))]) (fun j w'=>Ac w w'/\j<=xs.length/\xs.drop j=ys.drop j) (fun j=>j) xs.length ⟨rfl,rfl,?_,trivial⟩ ⟨Ac.refl _,by omega,?_⟩ ?_
  ·show some (Value.int .i64 (IntKind.i64.wrap ((xs.length:Int) - 1)))=_;rw[Ab oo oo]
  ·rw[Kj,t,Kj]
  rintro j w' ⟨g,A,z⟩;have o:=h.ext g;have hB:=k.ext g;by_cases f:j=0
  ·subst f;refine Nv ?_;refine .a 2 (.bool false) rfl (A9 oo) ?_;refine Nv ?_;refine .cf ?_;have:xs=ys:=by simpa using z
   subst this;exact Ad.ax rfl rfl ⟨g,by rw[e];simp[GY]⟩
  ·obtain⟨i,rfl⟩:∃ i,j=i+1:=⟨j - 1,by omega⟩;have l:xs[i]?=some xs[i]:=by simp
   generalize xs[i]=x at l;have m:ys[i]?=some ys[i]:=by simp
   generalize ys[i]=y at m;have e0:(((i+1:Nat):Int) - 1)=(i:Int):=by omega
   rw[e0];refine Nv ?_;refine .a 2 (.bool true) rfl (Aa oo) ?_;refine Nv ?_;refine .cT ?_;refine Nv ?_;refine St.quiet Dv kr ?_;refine .run A8 99 rfl ?_;refine QL.elem A8 i (Dr x) o.1 (o.get l) rfl rfl rfl rfl rfl rfl rfl rfl rfl rfl rfl (fun _=>rfl) ?_;intro p1;refine .run A8 99 rfl ?_;refine QL.elem A8 i (Dr y) hB.1 (hB.get m) rfl rfl rfl rfl rfl rfl rfl rfl rfl rfl rfl (fun _=>rfl) ?_;intro p2;refine .run A8 99 rfl ?_;refine QL.nil fun m1=>?_;refine Nv ?_;by_cases s:x=y
   ·subst s;refine St.ay rfl sm ?_;refine A7 ?_;refine Ad.again i ⟨rfl,rfl,?_,trivial⟩ ⟨g.drewN _,by omega,Qq l m z⟩ oo;show some (Value.int .i64 (IntKind.i64.wrap ((i:Int) - 1)))=_;rw[Ab oo oo]
   refine St.aD rfl (by simp;omega) ?_;refine Nv ?_;refine St.quiet Dv kr ?_;refine .run A8 99 rfl ?_;refine QL.elem A8 i (Dr x) (o.drewN m1).1 (o.get l) rfl rfl rfl rfl rfl rfl rfl rfl rfl rfl rfl (fun _=>rfl) ?_;intro p3;refine .run A8 99 rfl ?_;refine QL.elem A8 i (Dr y) (hB.drewN m1).1 (hB.get m) rfl rfl rfl rfl rfl rfl rfl rfl rfl rfl rfl (fun _=>rfl) ?_;intro D;refine .run A8 99 rfl ?_;refine QL.nil fun m2=>?_;refine Nv ?_;by_cases n:x<y
   ·refine St.aD rfl (by simp;omega) ?_;refine A7 ?_;have:=O6 xs ys h.2 t i x y l m n z;exact Ad.ax rfl rfl ⟨(g.drewN _).drewN _,by rw[e];simp[GY,this]⟩
   ·refine St.ay rfl (by simp;omega) ?_;refine A7 ?_;have:=O6 ys xs k.2 t.symm i y x m l oo z.symm;exact Ad.ax rfl rfl ⟨(g.drewN _).drewN _,by rw[e];unfold GY;rw[if_neg oo,if_pos this]⟩
 ·refine St.aD rfl (by simp;omega) ?_;refine A7 ?_;by_cases b:xs.length<ys.length
  ·rw[if_pos b]at e;refine St.aD rfl (by simp;omega) ?_;refine A7 ?_;exact Ad.ax rfl rfl ⟨Ac.refl _,by rw[e]⟩
  ·rw[if_neg b,if_pos oo]at e;refine St.ay rfl (by simp;omega) ?_;refine A7 ?_;exact Ad.ax rfl rfl ⟨Ac.refl _,by rw[e]⟩
theorem A3f (w:World) (x y:Value) (na nb:Bool) (xs ys:List Nat) (h:KP w x na xs) (k:KP w y nb ys) (o:xs.length<=100000000) (m:ys.length<=100000000) :
  Calls prog 90 #[x,y] w (AJ fun r w'=>Ac w w'/\r=.bool (decide (na=nb/\xs=ys))):=by
 obtain⟨p,cap,rfl,g⟩:=h;obtain⟨q,cb,rfl,ks⟩:=k;refine cS func90 ntmps90 ?_;refine Nv ?_;refine .s (oB) ?_;rintro _ w1 ⟨rfl,j,u,t⟩;refine .s (oB) ?_;rintro _ w2 ⟨rfl,l,v,b⟩;refine A7 ?_;refine .p FW ?_;refine A7 ?_;refine .p FW ?_;refine .p (A0.cW A8 rfl rfl rfl) ?_;by_cases e:na=nb
 ·subst e;rw[show (na == na)=true from by cases na <;> rfl];refine .r rfl ?_;refine .p FW ?_;refine .r rfl ?_;refine .p FW ?_;by_cases d:xs.length=ys.length
  ·refine .a 2 (.bool true) rfl (by simp[d]) ?_;refine .r rfl ?_;refine .p FW ?_;refine .r rfl ?_;refine .p FW ?_;refine .s (Av.call LZ rfl (Oe w2 _ _ xs ys EC EC oo oo)) ?_;rintro _ w3 ⟨z,rfl⟩;refine A7 ?_;refine Ad.ax rfl rfl ⟨EC,?_⟩;congr 1;have:=A6A g.2 ks.2;by_cases c:Zz xs ys=0
   ·rw[c,decide_eq_true (⟨rfl,this.1 c⟩:na=na/\xs=ys)];rfl
   ·rw[decide_eq_false (fun h=>c (this.2 h.2))];simpa using c
  ·refine .a 2 (.bool false) rfl (by simp;omega) ?_;refine A7 ?_;refine Ad.ax rfl rfl ⟨EC,?_⟩;rw[decide_eq_false];rintro⟨_,rfl⟩;exact d rfl
 ·rw[show (na == nb)=false from by cases na <;> cases nb <;> simp_all];refine A7 ?_;refine Ad.ax rfl rfl ⟨EC,?_⟩;rw[decide_eq_false (fun h=>e h.1)]
theorem A4G {w:World}{x:Value}{a b:Int}(h:Ao b1 w x a) (k:Ao b2 w y b) (j:sz a<=100000000) (ks:sz b<=100000000) :
  Calls prog 90 #[x,y] w (AJ fun r w'=>Ac w w'/\r=.bool (decide (a=b))):=by
 refine (A3f w x y _ _ _ _ h.den' k.den' j ks).mono ?_;rintro e w' ⟨r,rfl,l,rfl⟩;refine⟨_,rfl,l,?_⟩;congr 1;by_cases c:a=b
 ·subst c;simp
 ·rw[decide_eq_false c,decide_eq_false];rintro⟨d,g⟩;have m:=A30 g;have o:(a<0)↔(b<0):=by simpa using d
  omega
theorem EZ {w:World}{x:Value}{a:Int}(h:Dn w x a):Calls prog 83 #[x] w (AJ fun r w'=>Ac w w'/\r=.int .i64 (AH a)):=by
 obtain⟨neg,xs,⟨p,cap,rfl,k⟩,rfl,j⟩:=h;refine cS func83 ntmps83 ?_;refine Nv ?_;refine .s (oB) ?_;rintro _ w1 ⟨rfl,g,l,o⟩;refine A7 ?_;refine .p FW ?_;refine .s (Av.call CU rfl (Dq (base:=0) w1 _ xs EC oo BI)) ?_;rintro sl w2 ⟨m,d⟩;obtain⟨p2,e,rfl,_⟩:=d.sl.form;rw[Nf];refine A7 ?_;by_cases c:Ah xs=0
 ·refine St.aD rfl (by rw[c];rfl) ?_;refine A7 ?_;exact Ad.ax rfl rfl ⟨EC,by rw[if_pos c]⟩
 refine St.ay rfl (by simp[CQ,c]) ?_;refine A7 ?_;refine .p FW ?_;refine A7 ?_;cases neg with
 | true =>
  refine .ct ?_;exact Ad.ax rfl rfl ⟨EC,by rw[if_neg c];rfl⟩
 | false =>
  refine .cf ?_;exact Ad.ax rfl rfl ⟨EC,by rw[if_neg c];rfl⟩
theorem Ma {w:World}{x:Value}{a b:Int}(h:Dn w x a) (k:Dn w y b):Calls prog 146 #[x,y] w (AJ fun r w'=>Ac w w'/\r=.int .i64 (HK a b)):=by
 have t:=h;have J:=k;obtain⟨na,xs,⟨p,cap,rfl,o⟩,rfl,C⟩:=h;obtain⟨nb,ys,⟨q,cb,rfl,ks⟩,rfl,n⟩:=k;have z:=FN (sg na (Ah xs));have E:=FN (sg nb (Ah ys));refine cS func146 ntmps146 ?_;refine Nv ?_;refine .s (oB) ?_;rintro _ w1 ⟨rfl,f,F,H⟩;refine .s (oB) ?_;rintro _ w2 ⟨rfl,i,G,I⟩;refine .r rfl ?_;refine Nv ?_;refine sF 4 ?_;refine .q ?_;refine FL.aA (L:=[]) A8 rfl rfl rfl rfl rfl rfl EC sm AO rfl ?_;refine FL.aY Dd rfl rfl rfl (fun w3 j=>Gj.mk rfl (EZ (a:=sg na (Ah xs)) EC)) ?_;refine FL.aA (L:=[]) A8 rfl rfl rfl rfl rfl rfl EC sm AO rfl ?_;refine FL.aY Dd rfl rfl rfl (fun w3 j=>Gj.mk rfl (EZ (a:=sg nb (Ah ys)) EC)) ?_;refine FL.aG rfl ?_;intro w3 j _ _;refine A7 ?_;by_cases g:AH (sg na (Ah xs))=AH (sg nb (Ah ys))
 ·refine St.ay rfl (by simp[g]) ?_;have m:=WR na nb (Ah xs) (Ah ys) g;have l:=UW (Ah xs) (Ah ys);have D:=WS z l;rw[<- m];refine Nv ?_;refine St.sub (E':=[(2,.pointer (some ⟨w.heap.size,0,none⟩)),(3,.pointer (some ⟨w1.heap.size,0,none⟩)),(5,.int .i64 (AH (sg na (Ah xs))))]) ?_ ⟨rfl,rfl,rfl,trivial⟩;refine sF 9 ?_;refine .q ?_;refine FL.load (L:=[]) A8 rfl rfl rfl rfl rfl rfl EC sm rfl ?_;refine FL.au CU rfl rfl rfl (fun c d=>Gj.mk rfl (Dq (base:=0) c _ xs EC oo BI)) (Am.slO 0 _) ?_;refine .q ?_;refine FL.load (L:=[]) A8 rfl rfl rfl rfl rfl rfl EC sm rfl ?_;refine FL.au CU rfl rfl rfl (fun c d=>Gj.mk rfl (Dq (base:=0) c _ ys EC oo BI)) (Am.slO 0 _) ?_;have A:=Ap xs o.2;have B:=Ap ys ks.2;refine FL.aY LZ rfl rfl rfl (fun c d u hu v hv=>Gj.mk rfl (Oe c u v _ _ hu.sl hv.sl oo oo)) ?_;rw[Pw];refine .q ?_;refine FL.aG rfl ?_;intro c d _ _ _ _ _ _;refine A7 ?_;refine Ad.ax rfl rfl ⟨EC,?_⟩;rw[Ab oo oo]
 ·refine St.aD rfl (by simp;omega) ?_;refine A7 ?_;by_cases e:AH (sg na (Ah xs))<AH (sg nb (Ah ys))
  ·refine St.aD rfl (by simpa using e) ?_;refine A7 ?_;exact Ad.ax rfl rfl ⟨EC,by rw[A2h _ _ e]⟩
  ·refine St.ay rfl (by simp;omega) ?_;refine A7 ?_;exact Ad.ax rfl rfl ⟨EC,by rw[A2i _ _ oo]⟩
theorem Gk {w:World}{x:Value}{a:Int}(h:Dn w x a) (d:base<=w.heap.size):Calls prog 89 #[x] w (AJ fun r w'=>Ac w w'/\Ao base w' r a):=by obtain⟨neg,xs,⟨p,cap,rfl,u⟩,rfl,q⟩:=h;refine cS func89 ntmps89 ?_;refine Nv ?_;refine .s (oB) ?_;rintro _ w1 ⟨rfl,o,c,v⟩;refine .s (oA) ?_;rintro _ w2 ⟨rfl,e,k,y⟩;refine A7 ?_;refine .p FW ?_;refine A7 ?_;refine .p FW ?_;refine .s (Av.call CT rfl (DR (base:=base) w2 neg _ xs EC oo (Ar d (c.trans k).size))) ?_;rintro r w3 ⟨l,j⟩;refine Af.aJ rfl rfl (e.ext l) rfl j (w0:=w) EC c.size ?_;intro w' m g fin;refine Nv ?_;exact fin _ _ rfl ⟨m,g⟩
theorem Og {w:World}{x:Value}{a:Int}(h:Dn w x a) (e:base<=w.heap.size):Calls prog 130 #[x] w (AJ fun r w'=>Ac w w'/\Ao base w' r (-a)):=by obtain⟨neg,xs,⟨p,cap,rfl,u⟩,rfl,q⟩:=h;refine cS func130 ntmps130 ?_;refine Nv ?_;refine .s (oB) ?_;rintro _ w1 ⟨rfl,o,d,v⟩;refine .s (oA) ?_;rintro _ w2 ⟨rfl,g,k,y⟩;refine A7 ?_;refine .p FW ?_;refine A7 ?_;refine .p FW ?_;refine .s (Av.call CT rfl (DR (base:=base) w2 (!neg) _ xs EC oo (Ar e (d.trans k).size))) ?_;rintro r w3 ⟨l,c⟩;rw[A12]at c;refine Af.aJ rfl rfl (g.ext l) rfl c (w0:=w) EC d.size ?_;intro w' m j fin;refine Nv ?_;exact fin _ _ rfl ⟨m,j⟩
theorem XY {w:World}{x:Value}{a:Int}(h:Dn w x a) (g:base<=w.heap.size):Calls prog 183 #[x] w (AJ fun r w'=>Ac w w'/\Ao base w' r (a.natAbs:Int)):=by
 obtain⟨neg,xs,⟨p,cap,rfl,v⟩,rfl,u⟩:=h;refine cS func183 ntmps183 ?_;refine Nv ?_;refine .s (oB) ?_;rintro _ w1 ⟨rfl,q,d,y⟩;refine .s (oA) ?_;rintro _ w2 ⟨rfl,j,l,z⟩;refine A7 ?_;refine .p FW ?_;refine .s (Av.call CT rfl (DR (base:=base) w2 false _ xs EC oo (Ar g (d.trans l).size))) ?_;rintro r w3 ⟨m,c⟩;have e:sg false (Ah xs)=((sg neg (Ah xs)).natAbs:Int):=by rw[Gf];rfl
 rw[e]at c;refine Af.aJ rfl rfl (j.ext m) rfl c (w0:=w) EC d.size ?_;intro w' o k fin;refine Nv ?_;exact fin _ _ rfl ⟨o,k⟩
theorem V6 (w:World) (v:Value) (xs:List Nat) (h:Sl w v xs) (o:xs.length<=1000000000) :
  Calls prog 181 #[v] w (AJ fun r w'=>Ac w w'/\r=.int .u64 (Ah (xs.take 2))):=by
 obtain⟨p,cap,rfl,j⟩:=h.form;refine cS func181 ntmps181 ?_;refine A7 ?_;refine St.loop (fun k:Nat=>[(0,.slice p xs.length cap),(3,.int .u64 (Ah (xs.take k))),(4,.int .i64 k)]) (fun k w'=>w'=w/\k<=xs.length/\k<=2) (fun k=>2 - k) 0 ⟨rfl,rfl,rfl,trivial⟩ ⟨rfl,by omega,by omega⟩ ?_;rintro k w' ⟨rfl,l,m⟩;by_cases q:k<xs.length
 ·by_cases u:k<2
  ·have c:xs[k]?=some xs[k]:=by simp
   generalize xs[k]=x at c;have z:=h.2.get c;have hv:=Fm (xs.take k) (h.2.take k);have y:=Ew (h.2.take (k+1)) (by simp;omega);have d:=Az c;refine Nv ?_;refine .a 4 (.bool true) rfl (Aa oo) ?_;refine .a 3 (.bool true) rfl (Aa oo) ?_;refine A7 ?_;refine .ct ?_;refine Af.elem A8 k (Dr x) h.1 (h.get c) rfl rfl rfl rfl rfl rfl rfl rfl rfl rfl rfl (fun _=>rfl) ?_;intro p1;refine A7 ?_;refine .p (A0.shl (32 * k) rfl rfl (by rw[Ab oo oo];omega) (by show 32 * k<=64;omega)) ?_;have e0:(4294967296:Nat) ^ k=2 ^ (32 * k):=by rw[LJ]
   have g:(xs.take k).length=k:=by simp;omega
   rw[g,e0]at hv;rw[e0]at d;have e1:IntKind.u64.wrap (IntKind.u64.wrap (x:Int) * 2 ^ (32 * k))=((x * 2 ^ (32 * k):Nat):Int):=by
    rw[BG (n:=(x:Int)) oo oo,BG]
    ·simp
    ·exact DI oo (LA (Int.pow_pos de))
    ·have:(x:Int) * 2 ^ (32 * k)=((x * 2 ^ (32 * k):Nat):Int):=by simp
     omega
   rw[e1];refine .a 1 (.int .u64 (Ah (xs.take (k+1)))) rfl ?_ ?_
   ·rw[Pb _ _ oo oo,Rl _ _ _ hv,d]
   refine A7 ?_;refine Ad.again (k+1) ⟨rfl,rfl,?_,trivial⟩ ⟨rfl,by omega,by omega⟩ oo;show some (Value.int .i64 (IntKind.i64.wrap ((k:Int)+1)))=_;rw[Ab oo oo];rfl
  ·have e:k=2:=by omega
   subst e;refine Nv ?_;refine .a 4 (.bool true) rfl (Aa oo) ?_;refine A7 ?_;refine .cf ?_;exact Ad.ax rfl rfl ⟨Ac.refl _,rfl⟩
 ·refine Nv ?_;refine .a 4 (.bool false) rfl (A9 oo) ?_;refine A7 ?_;refine .cf ?_;refine uR ⟨Ac.refl _,?_⟩;rw[Bs oo,Bs oo]
theorem Oh {w:World}{x:Value}{a:Int}(h:Dn w x a):Calls prog 128 #[x] w (AJ fun r w'=>Ac w w'/\r=Je a):=by
 obtain⟨neg,xs,⟨p,cap,rfl,k⟩,rfl,z⟩:=h;have y:=Ap xs k.2;refine cS func128 ntmps128 ?_;refine Nv ?_;refine .s (oB) ?_;rintro _ w1 ⟨rfl,g,b,f⟩;refine A7 ?_;refine .p FW ?_;refine .s (oK CU (Dq (base:=0) w1 _ xs EC oo BI)) ?_;rintro sl w2 ⟨l,e⟩;obtain⟨p2,q,rfl,_⟩:=e.sl.form;refine A7 ?_;refine .s (oK Ph (V6 w2 _ _ e.sl oo)) ?_;rintro _ w3 ⟨o,rfl⟩;have c:Ac w w3:=EC;have d:Aj 37 w3 w.heap.size _:=(g.ext l).ext o;refine A7 ?_;by_cases u:2<(Ae (Ah xs)).length
 ·refine St.aD rfl (by simp;omega) ?_;refine A7 ?_;refine Ad.bI rfl rfl rfl ⟨c,?_⟩;have v:18446744073709551616<=Ah xs:=by
   rcases Dl (Ah xs) 18446744073709551616 with h | h
   ·have:=Db h;omega
   ·exact h
  unfold Je;rw[if_neg];cases neg <;> simp[sg] <;> omega
 refine St.ay rfl (by simp;omega) ?_;have t:Ah xs<18446744073709551616:=by have:=Ew e.2 oo;rwa [Al]at this
 rw[Bs oo,Al];generalize Ah xs=m at *
 refine A7 ?_;refine .p (FX d) ?_;unfold Je;cases neg with
 | true =>
  by_cases j:m<=9223372036854775808
  ·refine .a 3 (.bool true) rfl (Aa oo) ?_;refine A7 ?_;refine .ct ?_;refine Ad.bI rfl rfl rfl ⟨c,?_⟩;rw[if_pos (by simp[sg];omega)];congr 4;simp only[IK,Cz,sg,if_true];omega
  ·refine .a 3 (.bool false) rfl (A9 oo) ?_;refine A7 ?_;refine .cf ?_;refine .p (FX d) ?_;refine A7 ?_;refine .cf ?_;refine Ad.bI rfl rfl rfl ⟨c,?_⟩;rw[if_neg (by simp[sg];omega)]
 | false =>
  refine A7 ?_;refine .cf ?_;refine .p (FX d) ?_;by_cases j:m<9223372036854775808
  ·refine .a 4 (.bool true) rfl (Aa oo) ?_;refine A7 ?_;refine .ct ?_;refine Ad.bI rfl rfl rfl ⟨c,?_⟩;rw[if_pos (by simp[sg];omega)];congr 4;simp only[IK,sg];simp;omega
  ·refine .a 4 (.bool false) rfl (A9 oo) ?_;refine A7 ?_;refine .cf ?_;refine Ad.bI rfl rfl rfl ⟨c,?_⟩;rw[if_neg (by simp[sg];omega)]
theorem WX {b1 b2:Nat}{w:World}{x y:Value}{a:Int}(h:Ao b1 w x a) (k:Ao b2 w y a) (c:sz a<=100000000) :
  Calls prog 90 #[x,y] w (AJ fun r w'=>Ac w w'/\r=.bool true):=by refine (A4G h k c c).mono ?_;rintro e w' ⟨r,rfl,d,rfl⟩;exact⟨_,rfl,d,by simp⟩
theorem Af.bX {w:World}{s:Nat}{pos:String}{tv:Value}(b:Nat) {bv:Int}
  (z:ov E x=some (.int .u32 bv)) (m:bv=b) (f:b<4294967296) (v:∀ p,AR ((d1,p)::E) s=some tv) (j:Ei base w tv xs) (i:xs.length<=10000000000) (t:Ac w0 w) (k:w0.heap.size<=base) (h:base<=w.heap.size) (o:Nat.blt d1 n=true) (q:Nat.blt d2 n=true)
  (next:∀ p v' w' c,Ac w c->Ei base c tv xs->c.grownBy w' tv.ownBlock->Ei base w' v' (xs++[b])->Ac w0 w'->Af prog n ((d2,v')::(d1,p)::E) w' ops rest Q) :
  Af prog n E w ops (⟨some d1,.buildSlice 35 1 #[(0,x)],ty,pos,af,none⟩::⟨some d2,.call ⟨.builtin .append,#[.tmp s,.tmp d1],#[35,35]⟩,ty2,pos2,af2,none⟩::rest) Q:=by
 subst m;refine Af.step rfl rfl o (Av.single A8 rfl rfl rfl z) ?_;rintro _ c ⟨rfl,l,d,A⟩;have e:=j.ext d;have u:Jk 109 c (.slice (some ⟨w.heap.size,0,none⟩) 1 1) ([b].map Dr):=l.row rfl sm sm rfl;refine Af.step rfl rfl q (Av.append A8 rfl rfl rfl rfl (v _) (AF _ _ _) e.1 u (A2l [b]) (by simp;omega) (by simp;omega) (by have:=d.size;omega)) ?_;rintro v' w' ⟨r,g,_⟩;refine next _ v' w' c d e g ⟨?_,?_⟩ ((t.trans d).grown e.1 k g)
 ·rw[Ev];exact r
 ·refine j.2.append ?_;intro y a;simp at a;omega
theorem K3 (xs:List Nat) (i:Nat):Ah (xs.take (i+1))=Ah (xs.take i)+xs.getD i 0 * 4294967296 ^ i:=by
 by_cases h:i<xs.length
 ·have c:xs[i]?=some xs[i]:=by simp
  rw[Az c];simp[Bd,c]
 ·rw[Bs oo,Bs oo,Bd,BJ oo];simp
theorem V7 (h:EB xs) (i:Nat):xs.getD i 0<4294967296:=UN h i
theorem Nj (xs:List Nat) (x:Nat):Ah (xs++[x])=Ah xs+4294967296 ^ xs.length * x:=by rw[FI];simp[Ah]
theorem A4H (t:Nat):IntKind.u32.wrap (t:Int)=((t % 4294967296:Nat):Int):=by rw[CJ];omega
theorem Mb (t:Nat) (h:t<18446744073709551616):IntKind.u64.wrap (t:Int)=(t:Int):=BG oo oo
theorem A3g (w:World) (u v:Value) (xs ys:List Nat) (h:Sl w u xs) (k:Sl w v ys) (O:xs.length<=1000000000) (N:ys.length<=1000000000) :
  Calls prog 133 #[u,v] w (AJ fun r w'=>Ac w w'/\∃ us,Ei 0 w' r us/\us.length<=max xs.length ys.length+1/\Ah us=Ah xs+Ah ys):=by
 obtain⟨p,c,rfl,_⟩:=h.form;obtain⟨q,d,rfl,_⟩:=k.form;refine cS func133 ntmps133 ?_;refine A7 ?_;refine St.loop (fun g:Value×List Nat×Nat×Nat=>[(0,.slice p xs.length c),(1,.slice q ys.length d),(5,g.1),(6,.int .u64 g.2.2.1),(7,.int .i64 g.2.2.2)])
  (fun g w'=>Ac w w'/\Ei w.heap.size w' g.1 g.2.1/\g.2.1.length=g.2.2.2/\g.2.2.1<=1/\g.2.2.2<=max xs.length ys.length/\Ah g.2.1+g.2.2.1 * 4294967296 ^ g.2.2.2=Ah (xs.take g.2.2.2)+Ah (ys.take g.2.2.2))
  (fun g=>max xs.length ys.length - g.2.2.2) (.slice none 0 0,[],0,0) ⟨rfl,rfl,rfl,rfl,rfl,trivial⟩ ⟨Ac.refl _,Ei.nil _ _,rfl,by decide,Cu _,rfl⟩ ?_
 rintro⟨ov,os,cy,i⟩ w1 ⟨l,t,m,F,I,z⟩;dsimp only at l t m F I z ⊢;have B:=h.ext l;have hB:=k.ext l;have o:=V7 h.2 i;have A:=V7 k.2 i;by_cases P:i<max xs.length ys.length
 ·refine St.cut (fun _:Unit=>[(0,.slice p xs.length c),(1,.slice q ys.length d),(5,ov),(6,.int .u64 cy),(7,.int .i64 i)]) (fun _ w'=>w'=w1) ?_ ?_
  ·refine Nv ?_;by_cases E:i<xs.length
   ·refine .a 4 (.bool true) rfl (Aa oo) ?_;refine A7 ?_;refine .cT ?_;exact St.skip (Ad.met () ⟨rfl,rfl,rfl,rfl,rfl,trivial⟩ rfl)
   ·refine .a 4 (.bool false) rfl (A9 oo) ?_;refine .a 5 (.bool true) rfl (Aa oo) ?_;refine A7 ?_;refine .cT ?_;exact St.skip (Ad.met () ⟨rfl,rfl,rfl,rfl,rfl,trivial⟩ rfl)
  rintro _ w1 rfl;refine St.seq (St.block (St.seq (St.cL (fun _:Unit=>[(0,.slice p xs.length c),(1,.slice q ys.length d),(5,ov),(6,.int .u64 ((cy+xs.getD i 0:Nat):Int)),(7,.int .i64 i)]) (fun _ w'=>w'=w1) ?_ ?_)))
  ·refine A7 ?_;by_cases E:i<xs.length
   ·refine St.aD rfl (by simp;omega) ?_;have n:xs[i]?=some xs[i]:=by simp
    have j:xs.getD i 0=xs[i]:=by simp[Bd,n]
    rw[j]at o ⊢;generalize xs[i]=x at n o ⊢;refine Nv ?_;refine .r rfl ?_;refine Af.elem A8 i (Dr x) B.1 (B.get n) rfl rfl rfl rfl rfl rfl rfl rfl rfl rfl rfl (fun _=>rfl) ?_;intro p1;refine .a 2 (.int .u64 ((cy+x:Nat):Int)) rfl (by congr 1;rw[Mb x oo];exact Mb (cy+x) oo) ?_;refine .r rfl ?_;exact Af.nil (Ad.met () ⟨rfl,rfl,rfl,rfl,rfl,trivial⟩ rfl)
   ·refine St.ay rfl (by simp;omega) ?_;have j:xs.getD i 0=0:=by rw[Bd,BJ oo];rfl
    rw[j];exact St.skip (Ad.met () ⟨rfl,rfl,rfl,rfl,rfl,trivial⟩ rfl)
  rintro _ w1 rfl;refine St.seq (St.cL (fun _:Unit=>[(0,.slice p xs.length c),(1,.slice q ys.length d),(5,ov),(6,.int .u64 ((cy+xs.getD i 0+ys.getD i 0:Nat):Int)),(7,.int .i64 i)]) (fun _ w'=>w'=w1) ?_ ?_)
  ·refine A7 ?_;by_cases E:i<ys.length
   ·refine St.aD rfl (by simp;omega) ?_;have s:ys[i]?=some ys[i]:=by simp
    have j:ys.getD i 0=ys[i]:=by simp[Bd,s]
    rw[j]at A ⊢;generalize ys[i]=y at s A ⊢;generalize xs.getD i 0=x at o ⊢;refine Nv ?_;refine .r rfl ?_;refine Af.elem A8 i (Dr y) hB.1 (hB.get s) rfl rfl rfl rfl rfl rfl rfl rfl rfl rfl rfl (fun _=>rfl) ?_;intro p1;refine .a 2 (.int .u64 ((cy+x+y:Nat):Int)) rfl (by congr 1;rw[Mb y oo];exact Mb (cy+x+y) oo) ?_;refine .r rfl ?_;exact Af.nil (Ad.met () ⟨rfl,rfl,rfl,rfl,rfl,trivial⟩ rfl)
   ·refine St.ay rfl (by simp;omega) ?_;have j:ys.getD i 0=0:=by rw[Bd,BJ oo];rfl
    rw[j];exact St.skip (Ad.met () ⟨rfl,rfl,rfl,rfl,rfl,trivial⟩ rfl)
  rintro _ w1 rfl;have C:=K3 xs i;have D:=K3 ys i;generalize xs.getD i 0=x at o C ⊢;generalize ys.getD i 0=y at A D ⊢;refine Nv ?_;refine .r rfl ?_;refine Af.bX ((cy+x+y) % 4294967296) rfl (A4H _) (CX _ de) (fun _=>rfl) t oo l AO l.size rfl rfl ?_;intro p2 v' w2 L K J H b f;refine A7 ?_;refine Ad.again (v',os++[(cy+x+y) % 4294967296],(cy+x+y) / 4294967296,i+1) ⟨rfl,rfl,rfl,?_,?_,trivial⟩ ⟨f,b,by simp[m],by dsimp only;omega,by dsimp only;omega,?_⟩ (by dsimp only;omega)
  ·show some (Value.int .u64 (((cy+x+y:Nat):Int) / 2 ^ 32))=_;rw[show ((2:Int) ^ 32)=4294967296 from rfl];congr 2
  ·show some (Value.int .i64 (IntKind.i64.wrap ((i:Int)+1)))=_;rw[Ab oo oo];rfl
  ·dsimp only;rw[Nj,m,C,D,Ck];have G:=Nat.mod_add_div (cy+x+y) 4294967296;have e:(cy+x+y) / 4294967296 * (4294967296 ^ i * 4294967296)=4294967296 ^ i * (4294967296 * ((cy+x+y) / 4294967296)):=by rw[AQ,Bb]
   rw[e,HS,<- Dk,G,Dk,Dk,AQ x,AQ y,AQ _ cy];omega
 ·have M:i=max xs.length ys.length:=by omega
  refine Nv ?_;refine .a 4 (.bool false) rfl (A9 oo) ?_;refine .a 5 (.bool false) rfl (A9 oo) ?_;refine A7 ?_;refine .cF ?_;refine Nv ?_;refine .r rfl ?_;refine Af.bX cy rfl (by rw[A4H];congr 1;omega) oo (fun _=>rfl) t oo l AO l.size rfl rfl ?_;intro p2 v' w2 L K J H b f;refine A7 ?_;refine uR ⟨f,_,b.mono BI,by simp;omega,?_⟩;rw[Bs oo,Bs oo]at z;rw[Nj,m,<- z,AQ]
theorem Px (w:World) (u v:Value) (xs ys:List Nat) (h:Sl w u xs) (k:Sl w v ys) (ha:xs.length<=1000000000) (_hl:ys.length<=1000000000) (hb:ys.length<=xs.length) (X:Ah ys<=Ah xs) (S:base<=w.heap.size) :
  Calls prog 135 #[u,v] w (AJ fun r w'=>Ac w w'/\∃ us,Ei base w' r us/\us.length=xs.length/\Ah us=Ah xs - Ah ys):=by
 obtain⟨p,c,rfl,_⟩:=h.form;obtain⟨q,d,rfl,_⟩:=k.form;refine cS func135 ntmps135 ?_;refine A7 ?_;refine St.loop (fun g:Value×List Nat×Nat×Nat=>[(0,.slice p xs.length c),(1,.slice q ys.length d),(5,g.1),(6,.int .u64 g.2.2.1),(7,.int .i64 g.2.2.2)])
  (fun g w'=>Ac w w'/\Ei w.heap.size w' g.1 g.2.1/\g.2.1.length=g.2.2.2/\g.2.2.1<=1/\g.2.2.2<=xs.length/\Ah g.2.1+Ah (ys.take g.2.2.2)=Ah (xs.take g.2.2.2)+g.2.2.1 * 4294967296 ^ g.2.2.2)
  (fun g=>xs.length - g.2.2.2) (.slice none 0 0,[],0,0) ⟨rfl,rfl,rfl,rfl,rfl,trivial⟩ ⟨Ac.refl _,Ei.nil _ _,rfl,by decide,Cu _,rfl⟩ ?_
 rintro⟨ov,os,cy,i⟩ w1 ⟨l,f,o,T,V,N⟩;dsimp only at l f o T V N ⊢;have I:=h.ext l;have hB:=k.ext l;have H:=V7 k.2 i;by_cases hc:i<xs.length
 ·have b:xs[i]?=some xs[i]:=by simp
  have J:=Az b;generalize xs[i]=x at b J;have he:=h.2.get b;refine Nv ?_;refine .a 4 (.bool true) rfl (Aa oo) ?_;refine Nv ?_;refine .cT ?_;refine St.skip (Ad.ak (St.seq (St.block ?_)));refine Nv ?_;refine .r rfl ?_;(refine Af.nil ?_;repeat with_reducible first | refine Ad.ak ?_ | refine Ad.aL ?_);refine St.cut (fun _:Unit=>[(0,.slice p xs.length c),(1,.slice q ys.length d),(5,ov),(7,.int .i64 i),(8,.int .u64 ((cy+ys.getD i 0:Nat):Int))]) (fun _ w'=>w'=w1) ?_ ?_
  ·refine A7 ?_;by_cases E:i<ys.length
   ·refine St.aD rfl (by simp;omega) ?_;have G:ys[i]?=some ys[i]:=by simp
    have s:ys.getD i 0=ys[i]:=by simp[Bd,G]
    rw[s]at H ⊢;generalize ys[i]=y at G H ⊢;refine Nv ?_;refine .r rfl ?_;refine Af.elem A8 i (Dr y) hB.1 (hB.get G) rfl rfl rfl rfl rfl rfl rfl rfl rfl rfl rfl (fun _=>rfl) ?_;intro p1;refine .a 2 (.int .u64 ((cy+y:Nat):Int)) rfl (by congr 1;rw[Mb y oo];exact Mb (cy+y) oo) ?_;refine .r rfl ?_;exact Af.nil (Ad.met () ⟨rfl,rfl,rfl,rfl,rfl,trivial⟩ rfl)
   ·refine St.ay rfl (by simp;omega) ?_;have s:ys.getD i 0=0:=by rw[Bd,BJ oo];rfl
    rw[s];exact St.skip (Ad.met () ⟨rfl,rfl,rfl,rfl,rfl,trivial⟩ rfl)
  rintro _ w1 rfl;have K:=K3 ys i;generalize ys.getD i 0=y at H K ⊢;obtain⟨t,R⟩:∃ t,t=cy+y:=⟨_,rfl⟩;rw[<- R];obtain⟨nb,m,O⟩:∃ nb,nb=(if x<t then 1 else 0)/\nb<=1:=⟨_,rfl,by split <;> omega⟩;obtain⟨j,U⟩:∃ j,j=x+nb * 4294967296 - t:=⟨_,rfl⟩;have L:j<4294967296/\j+t=x+nb * 4294967296:=by rw[U,m];split <;> omega
  refine Nv ?_;refine .r rfl ?_;refine Af.elem A8 i (Dr x) I.1 (I.get b) rfl rfl rfl rfl rfl rfl rfl rfl rfl rfl rfl (fun _=>rfl) ?_;intro p1;refine .r rfl ?_;refine Af.bX j rfl (by rw[Mb x oo,CJ,Cz];omega) L.1 (fun _=>rfl) f oo l AO l.size rfl rfl ?_;intro p2 v' w2 wm hf hd Y Q n;refine A7 ?_;refine Af.elem A8 i (Dr x) (h.ext n).1 ((h.ext n).get b) rfl rfl rfl rfl rfl rfl rfl rfl rfl rfl rfl (fun _=>rfl) ?_;intro p3;refine .a 1 (.int .u64 x) rfl (by rw[Mb x oo]) ?_;refine .r rfl ?_;(refine Af.nil ?_;repeat with_reducible first | refine Ad.ak ?_ | refine Ad.aL ?_);have M:Ah (os++[j])+Ah (ys.take (i+1))=Ah (xs.take (i+1))+nb * 4294967296 ^ (i+1):=by
   rw[Nj,o,J,K,Ck];generalize 4294967296 ^ i=P at *
   have e1:P * j+(cy * P+y * P)=x * P+nb * (P * 4294967296):=by have:=congrArg (fun z=>P * z) L.2;simp only[R,Dk]at this;rw[AQ cy,AQ y,AQ x,this,<- Bb,AQ P nb,Bb]
   generalize P * j=A at *
   generalize cy * P=B at *
   generalize y * P=C at *
   generalize x * P=D at *
   generalize nb * (P * 4294967296)=F at *
   omega
  by_cases E:x<t
  ·refine St.aD rfl (by simp;omega) ?_;rw[if_pos E]at m;subst m;refine A7 ?_;refine Ad.again (v',os++[j],1,i+1) ⟨rfl,rfl,rfl,rfl,?_,trivial⟩ ⟨n,Q,by simp[o],O,by dsimp only;omega,M⟩ (by dsimp only;omega);show some (Value.int .i64 (IntKind.i64.wrap ((i:Int)+1)))=_;rw[Ab oo oo];rfl
  ·refine St.ay rfl (by simp;omega) ?_;rw[if_neg E]at m;subst m;refine A7 ?_;refine Ad.again (v',os++[j],0,i+1) ⟨rfl,rfl,rfl,rfl,?_,trivial⟩ ⟨n,Q,by simp[o],O,by dsimp only;omega,M⟩ (by dsimp only;omega);show some (Value.int .i64 (IntKind.i64.wrap ((i:Int)+1)))=_;rw[Ab oo oo];rfl
 ·have Z:i=xs.length:=by omega
  refine Nv ?_;refine .a 4 (.bool false) rfl (A9 oo) ?_;refine Nv ?_;refine .cf ?_;refine uR ⟨l,os,f.mono S,by omega,?_⟩;rw[Bs oo,Bs oo]at N;have W:=Fm os f.2;rw[o]at W;have:cy=0:=by
   rcases Gu cy with e | e
   ·exact e
   ·have:cy=1:=by omega
    subst this;omega
  subst this;omega
theorem Kw {w:World}{x:Value}{a b:Int}(h:Dn w x a) (k:Dn w y b) (hc:base<=w.heap.size):Calls prog 86 #[x,y] w (AJ fun r w'=>Ac w w'/\Ao base w' r (a+b)):=by
 obtain⟨na,xs,⟨p,cap,rfl,hs⟩,rfl,hk⟩:=h;obtain⟨nb,ys,⟨q,cb,rfl,ks⟩,rfl,hl⟩:=k;have hi:=Ap xs hs.2;have hj:=Ap ys ks.2;refine cS func86 ntmps86 ?_;refine Nv ?_;refine .s (oB) ?_;rintro _ w1 ⟨rfl,O,S,he⟩;refine .s (oB) ?_;rintro _ w2 ⟨rfl,P,J,hf⟩;refine .s (oA) ?_;rintro _ w3 ⟨rfl,Q,K,hh⟩;refine Nv ?_;refine sF 6 ?_;refine .q ?_;refine FL.load (L:=[]) A8 rfl rfl rfl rfl rfl rfl EC sm rfl ?_;refine FL.au CU rfl rfl rfl (fun g z=>cM (Dq (base:=0) g _ xs EC oo BI)) (Am.slO 0 _) ?_;refine .q ?_;refine FL.load (L:=[]) A8 rfl rfl rfl rfl rfl rfl EC sm rfl ?_;refine FL.au CU rfl rfl rfl (fun g z=>cM (Dq (base:=0) g _ ys EC oo BI)) (Am.slO 0 _) ?_;refine FL.aG rfl ?_;intro g z hm l v9 o _ _;obtain⟨N,c9,rfl,_⟩:=o.sl.form;obtain⟨M,c12,rfl,_⟩:=l.sl.form;generalize Ah xs=m at *
 generalize Ah ys=k at *
 have u:Ac w g:=EC;have E:Aj 37 g w.heap.size _:=((O.ext J).ext K).ext z;have F:Aj 37 g w1.heap.size _:=(P.ext K).ext z;have n:Aj 37 g w2.heap.size _:=Q.ext z;have G:w.heap.size<=w2.heap.size:=(S.trans J).size;have B:base<=g.heap.size:=Ar hc u.size;clear O P Q S J K z he hf hh;refine A7 ?_;refine .p (FX E) ?_;refine .r rfl ?_;refine .p (FX F) ?_;refine .p (A0.cW A8 rfl rfl rfl) ?_;(refine Af.nil ?_;repeat with_reducible first | refine Ad.ak ?_ | refine Ad.aL ?_);by_cases hn:na=nb
 ·subst hn;refine St.aD rfl sm ?_;refine Nv ?_;refine St.sub (E':=[(2,.pointer (some ⟨w.heap.size,0,none⟩)),(4,.pointer (some ⟨w2.heap.size,0,none⟩)),(5,.slice N (Ae m).length c9),(6,.slice M (Ae k).length c12)]) ?_ ⟨rfl,rfl,rfl,rfl,trivial⟩;refine sF 6 ?_;refine .q ?_;refine FL.load (L:=[]) A8 rfl rfl rfl rfl rfl rfl EC sm rfl ?_;refine .q ?_;refine FL.au A0F rfl rfl rfl (fun t c=>cM (A3g t _ _ _ _ (o.ext c).sl (l.ext c).sl oo oo)) ?_ ?_
  ·rintro v t e A ⟨us,f,i⟩;exact⟨us,f.rg A,i⟩
  refine FL.au (ψ:=fun v w'=>Ao base w' v (sg na m+sg na k)) CT rfl rfl rfl ?_ (Am.aF base _) ?_
  ·rintro t c T ⟨us,W,R,j⟩;rw[Al,Al]at j;have:=DR (base:=base) t na T us W.sl oo (Ar B c.size);rw[j,SB]at this;exact cM this
  refine FL.aG rfl ?_;intro t c ho X T _ _ _;refine Af.aJ rfl rfl (n.ext c) rfl X (u.trans c) G ?_;intro w' D C fin;refine Nv ?_;exact fin _ _ rfl ⟨D,C⟩
 have hd:nb=!na:=by cases na <;> cases nb <;> simp_all
 subst hd;refine St.ay rfl (by cases na <;> rfl) ?_;refine A7 ?_;refine .s (oK LZ (Oe g _ _ _ _ o.sl l.sl oo oo)) ?_;rintro _ t ⟨c,rfl⟩;rw[Pw];replace o:=o.ext c;replace l:=l.ext c;replace E:=E.ext c;replace F:=F.ext c;replace n:=n.ext c;replace u:=u.trans c;replace B:=Ar B c.size;clear c;by_cases H:k<=m
 ·refine .a 1 (.bool true) rfl (Aa (by unfold GY;rw[if_neg oo];split <;> decide)) ?_;refine Nv ?_;refine .cT ?_;have I:=AA k m H;refine Nv ?_;refine St.sub (E':=[(2,.pointer (some ⟨w.heap.size,0,none⟩)),(4,.pointer (some ⟨w2.heap.size,0,none⟩)),(5,.slice N (Ae m).length c9),(6,.slice M (Ae k).length c12)]) ?_ ⟨rfl,rfl,rfl,rfl,trivial⟩;refine sF 6 ?_;refine .q ?_;refine FL.load (L:=[]) A8 rfl rfl rfl rfl rfl rfl EC sm rfl ?_;refine .q ?_;refine FL.au Hw rfl rfl rfl (fun e d=>cM (Px (base:=0) e _ _ _ _ (o.ext d).sl (l.ext d).sl oo oo I (by rw[Al,Al];exact H) BI)) ?_ ?_
  ·rintro v e w7 A ⟨us,f,i⟩;exact⟨us,f.rg A,i⟩
  refine FL.au (ψ:=fun v w'=>Ao base w' v (sg na m+sg (!na) k)) CT rfl rfl rfl ?_ (Am.aF base _) ?_
  ·rintro e d U ⟨us,Y,R,j⟩;rw[Al,Al]at j;have:=DR (base:=base) e na U us Y.sl oo (Ar B d.size);rw[j,Uc _ _ _ H]at this;exact cM this
  refine FL.aG rfl ?_;intro e d hp Z U _ _ _;refine Af.aJ rfl rfl (n.ext d) rfl Z (u.trans d) G ?_;intro w' D C fin;refine Nv ?_;exact fin _ _ rfl ⟨D,C⟩
 ·refine .a 1 (.bool false) rfl (A9 (by unfold GY;rw[if_pos oo];decide)) ?_;refine Nv ?_;refine .cF ?_;have I:=AA m k oo;refine Nv ?_;refine St.sub (E':=[(3,.pointer (some ⟨w1.heap.size,0,none⟩)),(4,.pointer (some ⟨w2.heap.size,0,none⟩)),(5,.slice N (Ae m).length c9),(6,.slice M (Ae k).length c12)]) ?_ ⟨rfl,rfl,rfl,rfl,trivial⟩;refine sF 6 ?_;refine .q ?_;refine FL.load (L:=[]) A8 rfl rfl rfl rfl rfl rfl EC sm rfl ?_;refine .q ?_;refine FL.au Hw rfl rfl rfl (fun e d=>cM (Px (base:=0) e _ _ _ _ (l.ext d).sl (o.ext d).sl oo oo I (by rw[Al,Al];omega) BI)) ?_ ?_
  ·rintro v e w7 A ⟨us,f,i⟩;exact⟨us,f.rg A,i⟩
  refine FL.au (ψ:=fun v w'=>Ao base w' v (sg na m+sg (!na) k)) CT rfl rfl rfl ?_ (Am.aF base _) ?_
  ·rintro e d V ⟨us,ha,R,j⟩;rw[Al,Al]at j;have:=DR (base:=base) e (!na) V us ha.sl oo (Ar B d.size);rw[j,Uc _ _ _ oo,Bool.not_not,NW]at this;exact cM this
  refine FL.aG rfl ?_;intro e d hq hb V _ _ _;refine Af.aJ rfl rfl (n.ext d) rfl hb (u.trans d) G ?_;intro w' D C fin;refine Nv ?_;exact fin _ _ rfl ⟨D,C⟩
theorem Qx {w:World}{x:Value}{a b:Int}(h:Dn w x a) (k:Dn w y b) (o:base<=w.heap.size):Calls prog 179 #[x,y] w (AJ fun r w'=>Ac w w'/\Ao base w' r (a - b)):=by have v:=k.bM;have i:=h;have H:=k;obtain⟨na,xs,⟨p,cap,rfl,D⟩,rfl,C⟩:=h;obtain⟨nb,ys,⟨q,cb,rfl,ks⟩,rfl,B⟩:=k;refine cS func179 ntmps179 ?_;refine Nv ?_;refine .s (oB) ?_;rintro _ w1 ⟨rfl,n,e,E⟩;refine .s (oB) ?_;rintro _ w2 ⟨rfl,A,g,F⟩;refine .s (oA) ?_;rintro _ w3 ⟨rfl,m,z,G⟩;refine Nv ?_;refine sF 4 ?_;refine .q ?_;refine FL.aA (L:=[]) A8 rfl rfl rfl rfl rfl rfl EC sm AO rfl ?_;refine FL.aA (L:=[]) A8 rfl rfl rfl rfl rfl rfl EC sm AO rfl ?_;refine FL.au I4 rfl rfl rfl (fun j c=>cM (Og (base:=0) (a:=sg nb (Ah ys)) EC BI)) (Am.aF 0 _) ?_;refine FL.au FJ rfl rfl rfl (fun j c f l=>cM (Kw (base:=base) (a:=sg na (Ah xs)) EC (l.dn (by rw[KG];exact v)) (Ar o (((e.trans g).trans z).trans c).size))) (Am.aF base _) ?_;refine FL.aG rfl ?_;intro j c I d f _ _ _;rw[<- Int.sub_eq_add_neg]at d;refine Af.aJ rfl rfl (m.ext c) rfl d (w0:=w) EC (e.trans g).size ?_;intro w' t u fin;refine Nv ?_;exact fin _ _ rfl ⟨t,u⟩
theorem Dy {base:Nat}{w:World}{vx vy:Value}{a b:Int}(h:Dn w vx a) (k:Dn w vy b) (hc:base<=w.heap.size):Calls prog 87 #[vx,vy] w (AJ fun r w'=>Ac w w'/\Ao base w' r (a * b)):=by
 obtain⟨na,xs,⟨p,c,rfl,h⟩,rfl,hs⟩:=h;obtain⟨nb,ys,⟨q,d,rfl,k⟩,rfl,hl⟩:=k;refine cS func87 ntmps87 ?_;refine Nv ?_;refine .s (oB) ?_;rintro _ wa ⟨rfl,hb,hk,hx⟩;refine .s (oB) ?_;rintro _ wb ⟨rfl,hd,U,hy⟩;refine .s (oA) ?_;rintro _ wc ⟨rfl,he,V,hz⟩;have L:Ac w wc:=EC;have X:Aj 37 wc w.heap.size [.bool na,.slice p xs.length c]:=(hb.ext U).ext V;have O:Aj 37 wc wa.heap.size [.bool nb,.slice q ys.length d]:=hd.ext V;refine A7 ?_;refine .p FW ?_;refine A7 ?_;refine .p FW ?_;refine .r rfl ?_;refine .s (Av.make A8 (xs.length+ys.length) rfl rfl rfl rfl rfl (by rw[Ab oo oo];omega) rfl (by rw[Ab oo oo];omega) (by simp;omega) oo) ?_;rintro _ w1 ⟨rfl,ha,T,hw⟩;have hv:=L.trans T;refine A7 ?_;refine .p FW ?_;refine A7 ?_;refine St.loop (fun g:Nat×List Nat=>[(2,.pointer (some ⟨w.heap.size,0,none⟩)),(3,.pointer (some ⟨wa.heap.size,0,none⟩)),(4,.pointer (some ⟨wb.heap.size,0,none⟩)),(5,.slice (some ⟨wc.heap.size,0,none⟩) (xs.length+ys.length) (xs.length+ys.length)),(20,.slice p xs.length c),(21,.int .i64 xs.length),(22,.int .i64 g.1)])
  (fun g w2=>Ac wc w2/\Aj 109 w2 wc.heap.size (g.2.map Dr)/\g.2.length=xs.length+ys.length/\EB g.2/\g.1<=xs.length/\Ah (g.2.take (g.1+ys.length))=Ah (xs.take g.1) * Ah ys)
  (fun g=>xs.length - g.1) (0,List.replicate (xs.length+ys.length) 0) ⟨rfl,rfl,rfl,rfl,rfl,rfl,rfl,trivial⟩ ⟨T,by rw[G9];exact ha,by simp,DL _,by simp,by simp[Ah,List.take_replicate,CR]⟩ ?_
 rintro⟨i,us⟩ w2 ⟨o,E,m,I,hi,v⟩;simp only at E m I hi v;have K:=L.trans o;have N:=h.ext K;have P:=O.ext o;by_cases hu:i<xs.length
 ·have B:xs[i]?=some xs[i]:=by simp
  generalize xs[i]=x at B;have hn:=h.2.get B;refine Nv ?_;refine .a 1 (.bool true) rfl (Aa oo) ?_;refine Nv ?_;refine .ct ?_;refine Af.elem A8 i (Dr x) N.1 (N.get B) rfl rfl rfl rfl rfl rfl rfl rfl rfl rfl rfl (fun _=>rfl) ?_;intro p1;refine A7 ?_;refine .p (FX P) ?_;refine A7 ?_;refine St.loop (fun g:Nat×Nat×List Nat=>[(2,.pointer (some ⟨w.heap.size,0,none⟩)),(3,.pointer (some ⟨wa.heap.size,0,none⟩)),(4,.pointer (some ⟨wb.heap.size,0,none⟩)),(5,.slice (some ⟨wc.heap.size,0,none⟩) (xs.length+ys.length) (xs.length+ys.length)),(20,.slice p xs.length c),(21,.int .i64 xs.length),(22,.int .i64 i),(6,.int .i64 i),(7,Dr x),(8,.int .u64 g.2.1),(28,.slice q ys.length d),(29,.int .i64 ys.length),(30,.int .i64 g.1)])
   (fun g w3=>Ac wc w3/\Aj 109 w3 wc.heap.size (g.2.2.map Dr)/\g.2.2.length=xs.length+ys.length/\EB g.2.2/\g.2.1<4294967296/\g.1<=ys.length/\g.2.2.drop (i+g.1)=us.drop (i+g.1)/\Ah (g.2.2.take (i+g.1))+g.2.1 * 4294967296 ^ (i+g.1)=Ah (us.take (i+g.1))+x * Ah (ys.take g.1) * 4294967296 ^ i)
   (fun g=>ys.length - g.1) (0,0,us) ⟨rfl,rfl,rfl,rfl,rfl,rfl,rfl,rfl,rfl,rfl,rfl,rfl,rfl,trivial⟩ ⟨o,E,m,I,by simp,by simp,rfl,by simp[Ah]⟩ ?_
  rintro⟨j,cy,vs⟩ w3 ⟨e,u,J,A,F,R,G,f⟩;simp only at u J A F R G f;have hB:=k.ext (L.trans e);by_cases hg:j<ys.length
  ·have C:ys[j]?=some ys[j]:=by simp
   generalize ys[j]=y at C;have ho:=k.2.get C;have D:vs[i+j]?=some vs[i+j]:=by simp
   generalize vs[i+j]=z at D;have hp:=A.get D;have hq:us[i+j]?=some z:=by rw[<- M4?_of_drop G AO];exact D
   have Q:=Rw F hn ho hp;have M:IntKind.i64.wrap ((i:Int)+(j:Int))=((i+j:Nat):Int):=by rw[Ab oo oo];rfl
   refine Nv ?_;refine .a 1 (.bool true) rfl (Aa oo) ?_;refine Nv ?_;refine .ct ?_;refine Af.elem A8 j (Dr y) hB.1 (hB.get C) rfl rfl rfl rfl rfl rfl rfl rfl rfl rfl rfl (fun _=>rfl) ?_;intro p2;refine A7 ?_;refine Af.br A8 (i+j) (Dr z) u (by simp[D]) M oo rfl rfl rfl rfl rfl rfl rfl rfl rfl rfl (fun _=>rfl) ?_;intro p3;have e1:IntKind.u64.wrap ((cy:Int)+IntKind.u64.wrap (IntKind.u64.wrap (IntKind.u64.wrap (x:Int) * IntKind.u64.wrap (y:Int))+IntKind.u64.wrap (z:Int)))=((cy+x * y+z:Nat):Int):=by rw[BG (n:=(x:Int)) oo oo,BG (n:=(y:Int)) oo oo,show (x:Int) * (y:Int)=((x * y:Nat):Int) from by simp];generalize x * y=xy at Q;simp only[Cz];omega
   refine .a 3 (.int .u64 ((cy+x * y+z:Nat):Int)) rfl (by rw[e1]) ?_;generalize ht:cy+x * y+z=t at Q;refine A7 ?_;have e2:IntKind.u32.wrap (t:Int)=((t % 4294967296:Nat):Int):=by rw[CJ];omega
   refine Af.put A8 (i+j) u M oo (by simp;omega) rfl rfl rfl rfl rfl rfl rfl rfl (fun _=>rfl) (fun _=>rfl) rfl rfl ?_;intro p4 w4 l H;rw[e2,CA,AE]at l;refine A7 ?_;refine Ad.again (j+1,t / 4294967296,vs.set (i+j) (t % 4294967296)) ⟨rfl,rfl,rfl,rfl,rfl,rfl,rfl,rfl,rfl,?_,rfl,rfl,?_,trivial⟩ ⟨e.aj H AO,l,by simpa using J,A.set _ oo,by simp only;omega,by simp only;omega,?_,?_⟩ (by simp only;omega)
   ·show some (Value.int .u64 ((t:Int) / 2 ^ 32))=some (Value.int .u64 ((t / 4294967296:Nat):Int));rw[show (t:Int) / 2 ^ 32=((t / 4294967296:Nat):Int) from by omega]
   ·show some (Value.int .i64 (IntKind.i64.wrap ((j:Int)+1)))=_;rw[Ab oo oo];rfl
   ·simp only;rw[<- HS];exact Kt G
   ·simp only;rw[<- HS,Cs oo,Az hq,Az C,Ck];exact Zh _ _ _ _ _ _ _ _ _ _ _ _ (Df _ _ _) f oo
  obtain rfl:j=ys.length:=by omega
  rw[D5]at f;clear hg R;have Z:=O.ext e;have W:IntKind.i64.wrap ((i:Int)+(ys.length:Int))=((i+ys.length:Nat):Int):=by rw[Ab oo oo];rfl
  refine Nv ?_;refine .a 1 (.bool false) rfl (A9 oo) ?_;refine Nv ?_;refine .cf ?_;refine .p (FX Z) ?_;refine .r rfl ?_;have e2:IntKind.u32.wrap (cy:Int)=(cy:Int):=Hs oo oo;refine Af.put A8 (i+ys.length) u W oo (by simp;omega) rfl rfl rfl rfl rfl rfl rfl rfl (fun _=>rfl) (fun _=>rfl) rfl rfl ?_;intro p4 w4 l H;rw[e2,CA,AE]at l;refine A7 ?_;refine Ad.again (i+1,vs.set (i+ys.length) cy) ⟨rfl,rfl,rfl,rfl,rfl,rfl,?_,trivial⟩ ⟨e.aj H AO,l,by simpa using J,A.set _ F,by simp only;omega,?_⟩ (by simp only;omega)
  ·show some (Value.int .i64 (IntKind.i64.wrap ((i:Int)+1)))=_;rw[Ab oo oo];rfl
  ·simp only;rw[show i+1+ys.length=i+ys.length+1 from by omega,Cs oo,f,v,Az B,Bw];congr 1;rw[Bb,AQ (Ah ys),<- Bb]
 ·obtain rfl:i=xs.length:=by omega
  rw[Bs oo,Bs AO]at v;have Y:=X.ext o;refine Nv ?_;refine .a 1 (.bool false) rfl (A9 oo) ?_;refine Nv ?_;refine .cf ?_;refine .p (FX Y) ?_;refine .r rfl ?_;refine .p (FX P) ?_;refine .p (A0.cX A8 rfl rfl rfl) ?_;refine .r rfl ?_;have hh:Sl w2 (.slice (some ⟨wc.heap.size,0,none⟩) (xs.length+ys.length) (xs.length+ys.length)) us:=⟨E.row (by simp[m]) AO (by simp[m]) (by rw[FE,Bs (by simp[m])]),I⟩;refine .s (Av.call CT rfl (DR (base:=base) w2 _ _ us hh oo (Ar hc K.size))) ?_;rintro r w3 ⟨e,S⟩;rw[v,A4u]at S;refine Af.aJ rfl rfl ((he.ext o).ext e) rfl S (K.trans e) (hk.trans U).size ?_;intro w' hm hf fin;refine Nv ?_;exact fin _ _ rfl ⟨hm,hf⟩
end Go.Qf
namespace Go.Qf
theorem A4I {xs:List Nat}{k x:Nat}(h:EB xs) (c:xs[k]?=some x):∃ t,Ah xs / 4294967296 ^ k=x+4294967296 * t:=by
 have d:k<xs.length:=(Au.1 c).1;have g:=I0 xs k;have e:=Fm (xs.take k) (h.take k);have j:(xs.take k).length=k:=by simp;omega
 rw[j]at e;rw[H8 oo]at g;have l:0<4294967296 ^ k:=EM de;refine⟨Ah (xs.drop (k+1)),?_⟩;rw[g,NT _ _ l,J5 e,AE,ED d];have:xs[k]=x:=by rw[DH d]at c;exact Ir c
 rw[this];rfl
theorem XZ (k s:Nat):2 ^ (32 * k+s)=4294967296 ^ k * 2 ^ s:=by rw[Df,LJ]
theorem A82 {xs:List Nat}{k x s:Nat}(h:EB xs) (d:xs[k]?=some x) (g:s<32):x / 2 ^ s % 2=Ah xs / 2 ^ (32 * k+s) % 2:=by
 obtain⟨t,c⟩:=A4I h d;rw[XZ,<- LR,c];have e:(4294967296:Nat)=2 ^ s * (2 * 2 ^ (31 - s)):=by rw[<- Bb,AQ (2 ^ s) 2,<- Nat.pow_succ',<- Df,show s+1+(31 - s)=32 from by omega]
 rw[e,Bb,NT _ _ (EM de),Bb,Nat.add_mul_mod_self_left]
theorem WY {xs:List Nat}{k x s:Nat}(h:EB xs) (q:xs[k]?=some x) (r:s<32) (l:Ah xs % 2 ^ (32 * k+s+1)=0):x % 2 ^ (s+1)=0:=by
 obtain⟨t,o⟩:=A4I h q;have m:0<4294967296 ^ k:=EM de;obtain⟨c,g⟩:=U0 l;rw[show 32 * k+s+1=32 * k+(s+1) from by omega,XZ,Bb]at g;have d:Ah xs / 4294967296 ^ k=2 ^ (s+1) * c:=by rw[g,Nat.mul_div_cancel_left _ m]
 rw[o]at d;have e:(4294967296:Nat)=2 ^ (s+1) * 2 ^ (31 - s):=by rw[<- Df,show s+1+(31 - s)=32 from by omega]
 rw[e,Bb]at d;have j:x=2 ^ (s+1) * c - 2 ^ (s+1) * (2 ^ (31 - s) * t):=by omega
 rw[j,<- Nat.mul_sub];exact Nat.mul_mod_right _ _
theorem A1b {x s:Nat}(h:x % 2 ^ (s+1)=0):x ||| 2 ^ s=x+2 ^ s:=by obtain⟨y,rfl⟩:=U0 h;have c:2 ^ s<2 ^ (s+1):=Nat.pow_lt_pow_right de oo;have:=Rl (2 ^ s) y (s+1) c;rw[NP,AQ,this,FD]
theorem SC {xs:List Nat}{k x d:Nat}(c:xs[k]?=some x):Ah (xs.set k (x+d))=Ah xs+d * 4294967296 ^ k:=by
 induction xs generalizing k with
 | nil=>simp at c
 | cons a r ih =>
  cases k with
  | zero =>
   simp only[Hq,AP]at c;subst c;simp only[TL,Ah,Nat.pow_zero,LB];omega
  | succ k =>
   simp only[HY]at c;have:=ih c;simp only[List.set_cons_succ,Ah,this,Ck,Dk];rw[<- Bb,AQ 4294967296 d,Bb,AQ 4294967296 (4294967296 ^ k)];omega
theorem A6B (M b n:Nat) (c:0<n) (k:b<=1) :
  (n<=2 * (M % n)+b->(2 * M+b) % n=2 * (M % n)+b - n/\(2 * M+b) / n=2 * (M / n)+1)/\(¬ n<=2 * (M % n)+b->(2 * M+b) % n=2 * (M % n)+b/\(2 * M+b) / n=2 * (M / n)):=by
 have g:=Ho M n;have l:=CX M c;generalize M / n=q at *
 generalize M % n=r at *
 subst g;have e:2 * (n * q+r)+b=(2 * r+b)+n * (2 * q):=by rw[Dk,<- Bb,AQ 2 n,Bb];omega
 rw[e,Nat.add_mul_mod_self_left,NT _ _ c];constructor
 ·intro h;have j:(2 * r+b) / n=1:=by apply Nat.div_eq_of_lt_le <;> omega
  have d:(2 * r+b) % n=2 * r+b - n:=by rw[Nat.mod_eq_sub_mod h,Hj oo]
  exact⟨d,by omega⟩
 ·intro h;rw[Hj oo,J5 oo];exact⟨rfl,by omega⟩
theorem A3h (m j:Nat):m / 2 ^ j=2 * (m / 2 ^ (j+1))+m / 2 ^ j % 2:=by rw[Ck,<- LR];omega
end Go.Qf
namespace Go.Qf
open Go Go.RowKit Go.Proofs Go.Proofs.Tryz
variable {t ty t2:TypeId}{af:Array Edge}{g:Option (Nat×Bool)}{x:Operand}{d:Option Tmp}{k':IntKind}
section
variable {P:Program}{n:Nat}{E:List (Nat×Value)}{w:World}
theorem A0.dM {y:Operand}{pos:String}{k:IntKind}(m s:Nat) {mi si:Int}(l:ov E x=some (.int k mi)) (e:mi=m) (o:ov E y=some (.int k si)) (j:si=s) (q:0<s) (c:k.wrap ((m / s:Nat):Int)=((m / s:Nat):Int)) :
  A0 P n ⟨d,.binOp .quo t x y t2,ty,pos,af,g⟩ E w (.int k ((m / s:Nat):Int)):=by subst e j;have:=A0.quo (P:=P) (n:=n) (w:=w) (d:=d) (t:=t) (t2:=t2) (ty:=ty) (pos:=pos) (af:=af) (g:=g) l o oo oo;rw[<- TY,c]at this;exact this
theorem A0.cO {y:Operand}{pos:String}{k:IntKind}(m s:Nat) {mi si:Int}(j:ov E x=some (.int k mi)) (c:mi=m) (l:ov E y=some (.int k si)) (e:si=s) (o:0<s) :
  A0 P n ⟨d,.binOp .rem t x y t2,ty,pos,af,g⟩ E w (.int k ((m % s:Nat):Int)):=by subst c e;have:=A0.rem (P:=P) (n:=n) (w:=w) (d:=d) (t:=t) (t2:=t2) (ty:=ty) (pos:=pos) (af:=af) (g:=g) j l oo oo;rw[<- Int.natCast_emod]at this;exact this
theorem A0.shrN {y:Operand}{pos:String}{k:IntKind}(m j:Nat) {mi s:Int}(o:ov E x=some (.int k mi)) (e:mi=m) (q:ov E y=some (.int k' s)) (l:s=j) (c:j<=k.bits) :
  A0 P n ⟨d,.binOp .shr t x y t2,ty,pos,af,g⟩ E w (.int k ((m / 2 ^ j:Nat):Int)):=by subst e;have:=A0.shr (P:=P) (n:=n) (w:=w) (d:=d) (t:=t) (t2:=t2) (ty:=ty) (pos:=pos) (af:=af) (g:=g) j o q l c;rw[show ((m:Int) / 2 ^ j)=((m / 2 ^ j:Nat):Int) from by simp]at this;exact this
theorem A0.dW {y:Operand}{pos:String}{k:IntKind}(m j:Nat) {mi s:Int}(q:ov E x=some (.int k mi)) (e:mi=m) (r:ov E y=some (.int k' s)) (l:s=j) (c:j<=k.bits) (o:k.wrap ((m * 2 ^ j:Nat):Int)=((m * 2 ^ j:Nat):Int)) :
  A0 P n ⟨d,.binOp .shl t x y t2,ty,pos,af,g⟩ E w (.int k ((m * 2 ^ j:Nat):Int)):=by subst e;have:=A0.shl (P:=P) (n:=n) (w:=w) (d:=d) (t:=t) (t2:=t2) (ty:=ty) (pos:=pos) (af:=af) (g:=g) j q r l c;rw[show ((m:Int) * 2 ^ j)=((m * 2 ^ j:Nat):Int) from by simp,o]at this;exact this
end
theorem ZB (w:World) (u:Value) (xs:List Nat) (b:Nat) (h:Sl w u xs) (y:b<=1) (I:xs.length<=1000000000) :
  Calls prog 232 #[u,.int .u32 b] w (AJ fun r w'=>Ac w w'/\∃ us,Ei w.heap.size w' r us/\us.length=xs.length+1/\Ah us=2 * Ah xs+b):=by
 obtain⟨p,c,rfl,_⟩:=h.form;refine cS func232 ntmps232 ?_;refine A7 ?_;refine St.loop (fun g:Value×List Nat×Nat×Nat=>[(0,.slice p xs.length c),(1,.int .u32 g.2.2.1),(5,g.1),(8,.slice p xs.length c),(9,.int .i64 xs.length),(10,.int .i64 g.2.2.2)])
  (fun g w'=>Ac w w'/\Ei w.heap.size w' g.1 g.2.1/\g.2.1.length=g.2.2.2/\g.2.2.1<=1/\g.2.2.2<=xs.length/\Ah g.2.1+g.2.2.1 * 4294967296 ^ g.2.2.2=2 * Ah (xs.take g.2.2.2)+b)
  (fun g=>xs.length - g.2.2.2) (.slice none 0 0,[],b,0) ⟨rfl,rfl,rfl,rfl,rfl,rfl,trivial⟩ ⟨Ac.refl _,Ei.nil _ _,rfl,y,Cu _,by simp[Ah]⟩ ?_
 rintro⟨ov,os,cy,i⟩ w1 ⟨d,l,e,z,s,k⟩;dsimp only at d l e z s k ⊢;have q:=h.ext d;by_cases J:i<xs.length
 ·have j:xs[i]?=some xs[i]:=by simp
  have v:=Az j;generalize xs[i]=x at j v;have K:=h.2.get j;refine Nv ?_;refine .a 1 (.bool true) rfl (Aa oo) ?_;refine Nv ?_;refine .ct ?_;refine Af.elem A8 i (Dr x) q.1 (q.get j) rfl rfl rfl rfl rfl rfl rfl rfl rfl rfl rfl (fun _=>rfl) ?_;intro p1;refine .r rfl ?_;refine Nv ?_;have e1:IntKind.u32.wrap ((x:Int) * 2 ^ 1)=((2 * x % 4294967296:Nat):Int):=by rw[CJ];omega
  have e2:2 * x % 4294967296 ||| cy=2 * x % 4294967296+cy:=by have:=Rl cy (x % 2147483648) 1 oo;rw[show 2 * x % 4294967296=x % 2147483648 * 2 ^ 1 from by omega,NP,this,FD]
  have t:2 * x % 4294967296+cy<4294967296:=by omega
  refine .a 3 (.int .u32 ((2 * x % 4294967296:Nat):Int)) rfl (by rw[e1]) ?_;refine .a 2 (.int .u32 ((2 * x % 4294967296+cy:Nat):Int)) rfl (by rw[A0C _ _ oo oo,e2]) ?_;refine Af.bX (2 * x % 4294967296+cy) rfl rfl t (fun _=>rfl) l oo d AO d.size rfl rfl ?_;intro p2 v' w2 G F E n m o;refine A7 ?_;refine Ad.again (v',os++[2 * x % 4294967296+cy],x / 2147483648,i+1) ⟨rfl,?_,rfl,rfl,rfl,?_,trivial⟩ ⟨o,m,by simp[e],by dsimp only;omega,by dsimp only;omega,?_⟩ (by dsimp only;omega)
  ·show some (Value.int .u32 ((x:Int) / 2 ^ 31))=_;rw[show ((2:Int) ^ 31)=2147483648 from rfl];congr 2
  ·show some (Value.int .i64 (IntKind.i64.wrap ((i:Int)+1)))=_;rw[Ab oo oo];rfl
  ·dsimp only;rw[Nj,e,v,Ck];have f:2 * x % 4294967296+4294967296 * (x / 2147483648)=2 * x:=by omega
   generalize 4294967296 ^ i=P at *
   have e3:P * (2 * x % 4294967296+cy)+x / 2147483648 * (P * 4294967296)=cy * P+2 * (x * P):=by rw[Dk,AQ (x / 2147483648),Bb P,AQ cy,show P * (2 * x % 4294967296)+P * cy+P * (4294967296 * (x / 2147483648))=P * (2 * x % 4294967296)+P * (4294967296 * (x / 2147483648))+P * cy from by omega,<- Dk,f,FD,<- Bb,AQ P 2,Bb,AQ P x]
   generalize x / 2147483648 * (P * 4294967296)=A at *
   generalize P * (2 * x % 4294967296+cy)=B at *
   generalize cy * P=C at *
   generalize x * P=D at *
   omega
 ·have H:i=xs.length:=by omega
  refine Nv ?_;refine .a 1 (.bool false) rfl (A9 oo) ?_;refine Nv ?_;refine .cF ?_;refine Nv ?_;refine .r rfl ?_;refine Af.bX cy rfl rfl oo (fun _=>rfl) l oo d AO d.size rfl rfl ?_;intro p2 v' w2 G F E n m o;refine A7 ?_;refine uR ⟨o,_,m,by simp;omega,?_⟩;rw[Bs oo]at k;rw[Nj,e,<- k,AQ]
theorem Gh.dX {base b:Nat}{e:TypeId}{w w':World}{v:Value}{cs:List Value}(h:Gh base e w v cs) (hu:CE b w w') (c:b<base):Gh base e w' v cs:=by
 refine⟨h.1,?_⟩;rcases h.2 with h0 | ⟨g,cap,cur,hv,hg,hgg,r⟩
 ·exact .inl h0
 ·exact .inr ⟨g,cap,cur,hv,hg,(hu.block g (Gt.1 hgg).1 oo).trans hgg,r⟩
theorem Ei.dX {base b:Nat}{w w':World}{v:Value}{xs:List Nat}(h:Ei base w v xs) (hu:CE b w w') (c:b<base):Ei base w' v xs:=⟨Gh.dX h.1 hu c,h.2⟩
def A9u (w:World) (r:Value) (a b:Nat):Prop:=∃ q m,r=.tuple #[q,m]/\Ei 0 w q (Ae (a / b))/\Ei 0 w m (Ae (a % b))
theorem ZC (w:World) (u v:Value) (M K:Nat) (h:Sl w u (Ae M)) (k:Sl w v (Ae K)) (kr:(Ae M).length<=10000000) (hl:(Ae K).length<=10000000) (hK:K≠0) :
  Calls prog 212 #[u,v] w (AJ fun r w'=>Ac w w'/\A9u w' r M K):=by
 obtain⟨p,c,rfl,_⟩:=h.form;obtain⟨q,d,rfl,_⟩:=k.form;have F:0<K:=by omega
 refine cS func212 ntmps212 ?_;refine St.seq (St.region (Af.run A8 99 rfl (Af.nil (Ad.ak ?_))));by_cases C:(Ae M).length<=2/\(Ae K).length<=2
 ·have hM:M<18446744073709551616:=by have:=Ew h.2 C.1;rwa [Al]at this
  have km:K<18446744073709551616:=by have:=Ew k.2 C.2;rwa [Al]at this
  refine Nv ?_;refine .a 3 (.bool true) rfl (Aa oo) ?_;refine .a 4 (.bool true) rfl (Aa oo) ?_;refine A7 ?_;refine .ct ?_;refine .s (oK Ph (V6 w _ _ h oo)) ?_;rintro _ w1 ⟨Z,rfl⟩;rw[Bs C.1,Al];refine .r rfl ?_;refine .s (oK Ph (V6 w1 _ _ (k.ext Z) oo)) ?_;rintro _ w2 ⟨D,rfl⟩;rw[Bs C.2,Al];refine .r rfl ?_;refine Nv ?_;have hq:M / K<18446744073709551616:=LL (EN _ _) hM;have hr:M % K<18446744073709551616:=LL (NU _ _) hM;refine St.sub (E':=[(6,.int .u64 M),(7,.int .u64 K)]) ?_ ⟨rfl,rfl,trivial⟩;refine sF 12 ?_;refine .q ?_;refine .on (fun _ _=>A0.dM M K rfl rfl rfl rfl F (Mb _ hq)) ?_;refine FL.au Ko rfl rfl rfl (fun w3 l=>cM (M9 (base:=0) w3 false (M / K) hq BI)) (Am.aF 0 _) ?_;refine FL.fact (L:=[]) (ψ:=fun v w'=>Ei 0 w' v (Ae (M / K))) rfl rfl rfl rfl rfl ?_ (Am.slO 0 _) ?_
  ·rintro w3 G ky ⟨ku,ki,rfl,hb⟩;rw[Gf]at hb ⊢;exact A0.ext (A0.pure A8 rfl) hb
  refine .q ?_;refine .on (fun _ _=>A0.cO M K rfl rfl rfl rfl F) ?_;refine FL.au Ko rfl rfl rfl (fun w3 l=>cM (M9 (base:=0) w3 false (M % K) hr BI)) (Am.aF 0 _) ?_;refine FL.fact (L:=[]) (ψ:=fun v w'=>Ei 0 w' v (Ae (M % K))) rfl rfl rfl rfl rfl ?_ (Am.slO 0 _) ?_
  ·rintro w3 G kz ⟨kv,kj,rfl,hc⟩;rw[Gf]at hc ⊢;exact A0.ext (A0.pure A8 rfl) hc
  refine FL.fact (L:=[]) (ψ:=fun v w'=>Ei 0 w' v (Ae (M / K))) rfl rfl rfl rfl rfl (fun w3 G v hv=>A0.ext (A0.pure A8 rfl) hv) (Am.slO 0 _) ?_;refine FL.fact (L:=[]) (ψ:=fun v w'=>Ei 0 w' v (Ae (M % K))) rfl rfl rfl rfl rfl (fun w3 G v hv=>A0.ext (A0.pure A8 rfl) hv) (Am.slO 0 _) ?_;refine FL.aG rfl ?_;intro w3 l v5 h5 v4 h4 _ _ _ _ _ _ _ _ _ _;refine A7 ?_;exact Ad.bI rfl rfl rfl ⟨EC,_,_,rfl,h4,h5⟩
 refine St.cut (fun _:Unit=>[(0,.slice p (Ae M).length c),(1,.slice q (Ae K).length d),(5,.slice none 0 0)]) (fun _ w'=>w'=w) ?_ ?_
 ·refine Nv ?_;by_cases h1:(Ae M).length<=2
  ·refine .a 3 (.bool true) rfl (Aa oo) ?_;refine .a 4 (.bool false) rfl (A9 oo) ?_;refine A7 ?_;refine St.ay rfl rfl (St.skip (Ad.met () ⟨rfl,rfl,rfl,trivial⟩ rfl))
  ·refine .a 3 (.bool false) rfl (A9 oo) ?_;refine A7 ?_;refine St.ay rfl rfl (St.skip (Ad.met () ⟨rfl,rfl,rfl,trivial⟩ rfl))
 rintro _ w rfl;clear C;have hz:M<4294967296 ^ (Ae M).length:=by have:=Fm _ h.2;rwa [Al]at this
 generalize kf:Ae M=xs at *
 have kb:Ah xs=M:=by rw[<- kf,Al]
 refine A7 ?_;refine .s (Av.make A8 xs.length rfl rfl rfl rfl rfl rfl rfl rfl (by simp;omega) oo) ?_;rintro _ w1 ⟨rfl,h0,Z,kt⟩;refine A7 ?_;have ei:IntKind.i64.wrap (IntKind.i64.wrap (32 * (xs.length:Int)) - 1)=((32 * xs.length:Nat):Int) - 1:=by rw[Ab (n:=32 * (xs.length:Int)) oo oo,Ab oo oo];omega
 have hm:M / 2 ^ (32 * xs.length)=0:=by rw[LJ];exact J5 hz
 refine St.loop (fun g:Value×List Nat×Nat=>[(0,.slice p xs.length c),(1,.slice q (Ae K).length d),(4,.slice (some ⟨w.heap.size,0,none⟩) xs.length xs.length),(5,g.1),(8,.int .i64 ((g.2.2:Int) - 1))])
  (fun g w'=>Ac w w'/\w1.heap.size<=w'.heap.size/\Ei w1.heap.size w' g.1 (Ae (M / 2 ^ g.2.2 % K))/\Aj 109 w' w.heap.size (g.2.1.map Dr)/\g.2.1.length=xs.length/\EB g.2.1/\g.2.2<=32 * xs.length/\Ah g.2.1=M / 2 ^ g.2.2 / K * 2 ^ g.2.2)
  (fun g=>g.2.2) (.slice none 0 0,List.replicate xs.length 0,32 * xs.length) ⟨rfl,rfl,rfl,rfl,?_,trivial⟩ ⟨Z,Ai _,?_,by rw[G9];exact h0,by simp,DL _,Ai _,?_⟩ ?_
 ·show some (Value.int .i64 (IntKind.i64.wrap (IntKind.i64.wrap (32 * (xs.length:Int)) - 1)))=_;rw[ei]
 ·dsimp only;rw[hm,Nat.zero_mod];exact Ei.nil _ _
 ·dsimp only;rw[hm,Nat.zero_div,Nat.zero_mul,CR]
 rintro⟨rv,qs,j⟩ w2 ⟨D,X,B,H,t,b,hj,A⟩;dsimp only at D X B H t b hj A ⊢;by_cases h7:j=0
 ·subst h7;refine Nv ?_;refine .a 2 (.bool false) rfl (A9 oo) ?_;refine Nv ?_;refine .cf ?_;have ka:Sl w2 (.slice (some ⟨w.heap.size,0,none⟩) xs.length xs.length) qs:=⟨H.row (by simp[t]) AO (by simp[t]) (by rw[FE,Bs (by simp[t])]),b⟩;refine .s (oK CU (Dq (base:=0) w2 _ qs ka oo BI)) ?_;rintro kx w3 ⟨l,U⟩;rw[A]at U;simp only[Nat.pow_zero,Nat.div_one,LB]at U B;refine A7 ?_;exact Ad.bI rfl rfl rfl ⟨D.trans l,_,_,rfl,U,(B.ext l).mono BI⟩
 obtain⟨i,rfl⟩:∃ i,j=i+1:=⟨j - 1,by omega⟩;have ej:((i+1:Nat):Int) - 1=(i:Int):=by omega
 rw[ej];have kp:i / 32<xs.length:=by omega
 have T:xs[i / 32]?=some xs[i / 32]:=by simp
 have I:=A82 (s:=i % 32) (by have:=h.2;exact this) T (CX _ de);rw[kb,show 32 * (i / 32)+i % 32=i from Ho i 32]at I;generalize xs[i / 32]=x at T I;have ke:x<4294967296:=EB.get h.2 T;obtain⟨bt,h6⟩:∃ bt,bt=M / 2 ^ i % 2:=⟨_,rfl⟩;have hd:bt<=1:=by omega
 have hk:=A3h M i;rw[<- h6]at hk I;have hA:=h.ext D;have h8:M / 2 ^ (i+1) % K<K:=CX _ F;have ks:=AA _ _ (NQ h8);refine Nv ?_;refine .a 2 (.bool true) rfl (Aa oo) ?_;refine Nv ?_;refine .ct ?_;refine .p (A0.dM i 32 rfl rfl rfl rfl de (V2 _ oo)) ?_;refine Af.elem A8 (i / 32) (Dr x) hA.1 (hA.get T) rfl rfl rfl rfl rfl rfl rfl rfl rfl rfl rfl (fun _=>rfl) ?_;intro p1;refine .r rfl ?_;refine .p (A0.cO i 32 rfl rfl rfl rfl de) ?_;refine .p (A0.shrN x (i % 32) rfl rfl rfl rfl (by show i % 32<=32;omega)) ?_;have kd:x / 2 ^ (i % 32)<4294967296:=LL (EN _ _) ke;refine .a 1 (.int .u32 bt) rfl (by
  have e1:(Value.int .u32 (Km .and .u32 ((x / 2 ^ (i % 32):Nat):Int) ((1:Nat):Int)))=.int .u32 bt:=by rw[A6k _ 1 kd de,Nat.and_one_is_mod,I]
  exact e1) ?_
 refine .s (oK Wl (ZB w2 _ _ bt B.sl hd oo)) ?_;rintro kk w3 ⟨l,ds,he,kn,hf⟩;rw[Al]at hf;refine .s (oK CU (Dq (base:=w1.heap.size) w3 _ _ he.sl oo (Ar X l.size))) ?_;rintro kw w4 ⟨ht,e⟩;rw[hf]at e;have P:=l.trans ht;have z:=D.trans P;have m:=H.ext P;have o:w1.heap.size<=w4.heap.size:=Ar X P.size;have N:=k.ext z;obtain⟨kh,hy,rfl,_⟩:=e.sl.form;have V:=A6B (M / 2 ^ (i+1)) bt K F hd;rw[<- hk]at V;have kq:(Ae (2 * (M / 2 ^ (i+1) % K)+bt)).length<=10000001:=by refine Ar (AA _ (K+K) oo) ?_;have:=FY K K;omega
 clear l ht P H B he;generalize G:2 * (M / 2 ^ (i+1) % K)+bt=R at *
 refine A7 ?_;refine .s (oK LZ (Oe w4 _ _ _ _ e.sl N oo oo)) ?_;rintro _ w5 ⟨f,rfl⟩;rw[Pw];replace e:=e.ext f;replace m:=m.ext f;replace N:=N.ext f;replace z:=z.trans f;replace o:=Ar o f.size;clear f;by_cases J:K<=R
 ·obtain⟨O,W⟩:=V.1 J;refine .a 1 (.bool true) rfl (Aa (by unfold GY;rw[if_neg oo];split <;> decide)) ?_;refine Nv ?_;refine .ct ?_;refine .s (oK Hw (Px (base:=0) w5 _ _ _ _ e.sl N oo oo (AA _ _ J) (by rw[Al,Al];exact J) BI)) ?_;rintro kl w6 ⟨ha,es,hg,ko,hh⟩;rw[Al,Al]at hh;refine .s (oK CU (Dq (base:=w1.heap.size) w6 _ _ hg.sl oo (Ar o ha.size))) ?_;rintro hx w7 ⟨hu,hp⟩;rw[hh,<- O]at hp;have Q:=ha.trans hu;replace m:=m.ext Q;replace z:=z.trans Q;replace o:=Ar o Q.size;clear ha hu Q hg;have E:qs[i / 32]?=some qs[i / 32]:=by simp
  have hi:qs[i / 32] % 2 ^ (i % 32+1)=0:=by refine WY b E (CX _ de) ?_;rw[show 32 * (i / 32)+i % 32+1=i+1 from by omega,A];exact Nat.mul_mod_left _ _
  generalize qs[i / 32]=y at E hi;have hw:=b.get E;have hn:=A1b hi;have ho:2 ^ (i % 32)<4294967296:=Nat.pow_lt_pow_right de (CX _ de:i % 32<32);have kg:y+2 ^ (i % 32)<4294967296:=by rw[<- hn];exact TD (n:=32) hw ho
  have h9:=SC (d:=2 ^ (i % 32)) E;refine .r rfl ?_;refine Nv ?_;refine St.sub (E':=[(0,.slice p xs.length c),(1,.slice q (Ae K).length d),(4,.slice (some ⟨w.heap.size,0,none⟩) xs.length xs.length),(5,hx),(8,.int .i64 i)]) ?_ ⟨rfl,rfl,rfl,rfl,rfl,trivial⟩;refine sF 10 ?_;refine .q ?_;refine .on (fun _ _=>A0.dM i 32 rfl rfl rfl rfl de (V2 _ oo)) ?_;refine .on (fun _ _=>A0.ia) ?_;refine FL.load (L:=[]) A8 rfl rfl rfl rfl rfl (by simp only[Cj,Ak,AE];rfl) m sm (by simp[E];rfl) ?_;refine .q ?_;refine .on (fun _ _=>A0.cO i 32 rfl rfl rfl rfl de) ?_;refine .on (fun _ _=>A0.dW 1 (i % 32) rfl rfl rfl rfl (by show i % 32<=32;omega) (by rw[Cf];exact Hs oo oo)) ?_;refine FL.as A8 1 (.int .u32 ((y+2 ^ (i % 32):Nat):Int)) rfl (by rw[A0C _ _ hw (by rw[Cf];exact ho),Cf,hn]) ?_;refine .on (fun _ _=>A0.ia) ?_;refine FL.aG rfl ?_;intro w8 S _ _;refine Af.step0 rfl rfl (Av.store A8 (vs:=[Dr (y+2 ^ (i % 32))]) rfl (by simp only[Cj,Ak,AE];rfl) rfl rfl rfl (m.ext S) (by simp;omega) (by simp[Value.oneCell'])) ?_;rintro _ w9 ⟨h2,Y⟩;have h3:Aj 109 w9 w.heap.size ((qs.set (i / 32) (y+2 ^ (i % 32))).map Dr):=by rw[<- CA];exact h2
  have kc:=(z.trans S).aj Y AO;refine A7 ?_;refine Ad.again (hx,qs.set (i / 32) (y+2 ^ (i % 32)),i) ⟨rfl,rfl,rfl,rfl,?_,trivial⟩ ⟨kc,Ar (Ar o S.size) Y.size,(hp.ext S).dX Y oo,h3,by simpa using t,b.set _ kg,by dsimp only;omega,?_⟩ (LG i)
  ·show some (Value.int .i64 (IntKind.i64.wrap ((i:Int) - 1)))=_;rw[Ab oo oo]
  ·dsimp only;rw[h9,A,W,AQ (2 ^ (i % 32)),<- XZ,Ho,Ck,Bw,Cf];congr 1;rw[AQ (2 ^ i) 2,<- Bb,AQ _ 2]
 ·obtain⟨O,W⟩:=V.2 J;refine .a 1 (.bool false) rfl (A9 (by unfold GY;rw[if_pos oo];decide)) ?_;refine Nv ?_;refine .cF ?_;rw[<- O]at e;refine A7 ?_;refine Ad.again (.slice kh (Ae R).length hy,qs,i) ⟨rfl,rfl,rfl,rfl,?_,trivial⟩ ⟨z,o,?_,m,t,b,by dsimp only;omega,?_⟩ (LG i)
  ·show some (Value.int .i64 (IntKind.i64.wrap ((i:Int) - 1)))=_;rw[Ab oo oo]
  ·dsimp only;rw[O]at e ⊢;exact e
  ·dsimp only;rw[A,W,Ck,AQ (2 ^ i) 2,<- Bb,AQ _ 2]
variable {n b id:Nat}{E:List (Nat×Value)}{P:Program}{Q:Exit->Act->World->Prop}{l:List Oper}
theorem St.dY (m:Nat) (L:List Nat) {w:World}(g:P.follows .mixedOrders=true) (c:US l m=true) (k:Ss (Ec (l.take m)) E=true) (o:(Ec (l.take m)).all (fun d=>Nat.blt d n)=true)
  (j:M6 E (DX l m)=true) (e:Bl E (DX l m)=L) (q:Wq w L) (h:FL P n l m E w (Ob P n l m E w Q) 0 [] [] [] (l.take m)):St P n E w (.region id l.toArray true) Q :=
 St.flow m g c k o j (e ▸ q) h
theorem A4J {w:World}(h:b<w.heap.size):Wq w [b]:=⟨h,fun _ c=>(by cases c),trivial⟩
theorem A4K (na nb:Bool) (m k:Nat) (d:k≠0) :
  (sg na (m % k)<0->(nb=true->sg na m / sg nb k=sg (!(na == nb)) (m / k)+1)/\(nb=false->sg na m / sg nb k=sg (!(na == nb)) (m / k) - 1)/\sg na m % sg nb k=sg na (m % k)+(k:Int)) /\
  (¬ sg na (m % k)<0->sg na m / sg nb k=sg (!(na == nb)) (m / k)/\sg na m % sg nb k=sg na (m % k)):=by
 obtain⟨g,j,l⟩:=A2j na nb m k d;have o:=CX m (LM d);constructor
 ·intro h;cases na with
  | false=>rw[show sg false (m % k)=((m % k:Nat):Int) from rfl]at h;omega
  | true =>
   have c:m % k≠0:=by intro e;rw[e]at h;simp[sg]at h
   obtain⟨e1,e2⟩:=g ⟨rfl,c⟩;rw[e1,e2];refine⟨?_,?_,?_⟩
   ·rintro rfl;simp[sg]
   ·rintro rfl;simp[sg];omega
   ·simp[sg];omega
 ·intro h;cases na with
  | false =>
   obtain⟨e1,e2⟩:=l rfl;rw[e1,e2];cases nb <;> simp[sg]
  | true =>
   have c:m % k=0:=by simp[sg]at h;omega
   obtain⟨e1,e2⟩:=j ⟨rfl,c⟩;rw[e1,e2,c];cases nb <;> simp[sg]
theorem V8 {w:World}{vx vy:Value}{a b:Int}(h:Dn w vx a) (k:Dn w vy b):Calls prog 185 #[vx,vy] w (AJ fun r w'=>Ac w w'/\A4x 0 w' r a b):=by
 have kD:=k;have uf:=k.bM;have ue:=h.bM;obtain⟨na,xs,⟨p,cap,rfl,hs⟩,rfl,k3⟩:=h;obtain⟨nb,ys,⟨q,cb,rfl,ks⟩,rfl,hl⟩:=k;have k2:=Ap xs hs.2;have kj:=Ap ys ks.2;refine cS func185 ntmps185 ?_;refine Nv ?_;refine .s (oB) ?_;rintro _ w1 ⟨rfl,hw,kw,ug⟩;refine .s (oB) ?_;rintro _ w2 ⟨rfl,hx,h9,uh⟩;refine .s (oA) ?_;rintro _ w3 ⟨rfl,hy,ho,ui⟩;refine .s (oA) ?_;rintro _ w4 ⟨rfl,hz,hg,uj⟩;have n:Ac w w4:=EC;have l:Aj 37 w4 w.heap.size [.bool na,.slice p xs.length cap]:=((hw.ext h9).ext ho).ext hg;have m:Aj 37 w4 w1.heap.size [.bool nb,.slice q ys.length cb]:=(hx.ext ho).ext hg;have d:Aj 37 w4 w2.heap.size [.bool false,.slice none 0 0]:=hy.ext hg;have g:Aj 37 w4 w3.heap.size [.bool false,.slice none 0 0]:=hz;clear hw hx hy hz;refine .r rfl ?_;refine Nv ?_;refine sF 6 ?_;refine .q ?_;refine FL.load (L:=[]) A8 rfl rfl rfl rfl rfl rfl EC sm rfl ?_;refine FL.au CU rfl rfl rfl (fun w5 E=>cM (Dq (base:=0) w5 _ xs (hs.ext (n.trans E)) oo BI)) (Am.slO 0 _) ?_;refine .q ?_;refine FL.load (L:=[]) A8 rfl rfl rfl rfl rfl rfl EC sm rfl ?_;refine FL.au CU rfl rfl rfl (fun w5 E=>cM (Dq (base:=0) w5 _ ys (ks.ext (n.trans E)) oo BI)) (Am.slO 0 _) ?_;refine FL.aG rfl ?_;intro w5 E um o ul hr _ _;obtain⟨uk,c15,rfl,_⟩:=hr.sl.form;obtain⟨kc,c18,rfl,_⟩:=o.sl.form;replace l:=l.ext E;replace m:=m.ext E;replace d:=d.ext E;replace g:=g.ext E;replace n:=n.trans E;clear E;refine A7 ?_;by_cases Z:Ah ys=0
 ·refine St.aD rfl (by rw[Z];rfl) ?_;refine A7 ?_;refine .p (rB) ?_;refine .p (rB) ?_;refine Af.step0 rfl rfl (Av.store A8 (vs:=[.bool false,.slice none 0 0]) rfl rfl rfl rfl rfl d AO (by simp[Value.oneCell'])) ?_;rintro _ w6 ⟨kg,h7⟩;refine Af.step0 rfl rfl (Av.store A8 (vs:=[.bool false,.slice none 0 0]) rfl rfl rfl rfl rfl (g.upd h7 oo) AO (by simp[Value.oneCell'])) ?_;rintro _ w7 ⟨ki,h8⟩;have kh:=kg.upd h8 oo;refine A7 ?_;exact Ad.aC A8 [FM false (.slice none 0 0),FM false (.slice none 0 0),.bool false] rfl ⟨⟨_,_,_,_,rfl,kh,rfl,rfl,rfl,rfl⟩,⟨_,_,_,_,rfl,ki,rfl,rfl,rfl,rfl⟩,rfl,trivial⟩
   ⟨(n.aj h7 oo).aj h8 oo,fun _=>rfl,fun M=>absurd (by rw[Z];cases nb <;> rfl) M⟩
 have hk:sg nb (Ah ys)≠0:=by cases nb <;> simp[sg] <;> omega
 refine St.ay rfl (by simp[CQ,Z]) ?_;refine A7 ?_;refine .s (oK Wk (ZC w5 _ _ _ _ hr.sl o.sl oo oo Z)) ?_;rintro _ w6 ⟨O,qv,rv,rfl,kp,kt⟩;replace l:=l.ext O;replace m:=m.ext O;replace d:=d.ext O;replace g:=g.ext O;replace o:=o.ext O;replace n:=n.trans O;clear O;obtain⟨kk,kl⟩:=A4K na nb (Ah xs) (Ah ys) Z;have kq:(Ae (Ah xs / Ah ys)).length<=1000000:=Ar (AA _ _ (EN _ _)) oo;have ku:(Ae (Ah xs % Ah ys)).length<=1000000:=Ar (AA _ _ (NU _ _)) oo;have h5:sz (sg (!(na == nb)) (Ah xs / Ah ys))<=1000000:=by unfold sz;rw[Gf];exact kq
 have h6:sz (sg na (Ah xs % Ah ys))<=1000000:=by unfold sz;rw[Gf];exact ku
 refine .r rfl ?_;refine Nv ?_;refine St.sub (E':=[(2,.pointer (some ⟨w.heap.size,0,none⟩)),(3,.pointer (some ⟨w1.heap.size,0,none⟩)),(4,.pointer (some ⟨w2.heap.size,0,none⟩)),(5,.pointer (some ⟨w3.heap.size,0,none⟩)),(8,.slice kc (Ae (Ah ys)).length c18),(9,qv),(10,rv)]) ?_ ⟨rfl,rfl,rfl,rfl,rfl,rfl,rfl,trivial⟩;refine sF 13 ?_;refine .q ?_;refine FL.load (L:=[]) A8 rfl rfl rfl rfl rfl rfl EC sm rfl ?_;refine .q ?_;refine FL.load (L:=[]) A8 rfl rfl rfl rfl rfl rfl EC sm rfl ?_;refine .on (fun _ _=>A0.cX A8 rfl rfl rfl) ?_;refine .q ?_;refine FL.au (ψ:=fun v w'=>Ao 0 w' v (sg (!(na == nb)) (Ah xs / Ah ys))) CT rfl rfl rfl ?_ (Am.aF 0 _) ?_
 ·intro w7 B;have:=DR (base:=0) w7 (!(na == nb)) _ _ (kp.ext B).sl oo BI;rw[Al]at this;exact cM this
 refine .q ?_;refine FL.load (L:=[]) A8 rfl rfl rfl rfl rfl rfl EC sm rfl ?_;refine .q ?_;refine FL.au (ψ:=fun v w'=>Ao 0 w' v (sg na (Ah xs % Ah ys))) CT rfl rfl rfl ?_ (Am.aF 0 _) ?_
 ·intro w7 B;have:=DR (base:=0) w7 na _ _ (kt.ext B).sl oo BI;rw[Al]at this;exact cM this
 refine FL.alloc A8 rfl rfl rfl rfl ?_;refine FL.alloc A8 rfl rfl rfl rfl ?_;refine FL.aG rfl ?_;rintro w7 B _ ⟨b12,kz,rfl,k1,hv,h4⟩ _ ⟨b11,ky,rfl,k0,hd,h3⟩ kd hu un ht _ h2;have hn:b11≠b12:=by intro e;exact h2 11 de 12 de de _ rfl (by rw[e];rfl)
 have k9:=g.lt;have k8:=d.lt;replace l:=l.ext B;replace m:=m.ext B;replace d:=d.ext B;replace g:=g.ext B;replace o:=o.ext B;replace n:=n.trans B;clear B;refine Af.aK rfl rfl hd h3 ht n (by have:=l.lt;omega) ?_;intro w8 y I j ka;have he:=hv.upd I (fun e=>hn e.symm);replace l:=l.upd I oo;replace m:=m.upd I oo;replace d:=d.upd I oo;replace g:=g.upd I oo;replace o:Ei 0 w8 _ _:=⟨Gh.aI o.1 I hd de,o.2⟩;refine Af.aK rfl rfl he h4 (Ao.upd hu I ⟨_,hd⟩) ka (by have:=l.lt;omega) ?_;intro w9 f J D kb;replace l:=l.upd J oo;replace m:=m.upd J oo;replace d:=d.upd J oo;replace g:=g.upd J oo;replace o:Ei 0 w9 _ _:=⟨Gh.aI o.1 J he de,o.2⟩;replace y:=y.upd J hn;replace j:=Ao.upd j J ⟨_,he⟩;have N:=kb;clear ka kb I J he hv hd ht hu n h2 h3 h4 kw h9 ho hg;have k4:=y.lt;have k6:=f.lt;generalize uc:sg (!(na == nb)) (Ah xs / Ah ys)=Q at *
 generalize ud:sg na (Ah xs % Ah ys)=R at *
 refine A7 ?_;refine .p (rC f D) ?_;refine .s (oK Dd (EZ (D.dn h6))) ?_;rintro _ uo ⟨x,rfl⟩;replace l:=l.ext x;replace m:=m.ext x;replace d:=d.ext x;replace g:=g.ext x;replace o:=o.ext x;replace y:=y.ext x;replace j:=j.ext x;replace f:=f.ext x;replace D:=D.ext x;replace N:=N.trans x;clear x;refine A7 ?_;by_cases hf:R<0
 ·obtain⟨ko,km,hm⟩:=kk hf;refine St.aD rfl (by simp[AH,hf]) ?_;refine Nv ?_;refine St.sub (E':=[(2,.pointer (some ⟨w.heap.size,0,none⟩)),(3,.pointer (some ⟨w1.heap.size,0,none⟩)),(4,.pointer (some ⟨w2.heap.size,0,none⟩)),(5,.pointer (some ⟨w3.heap.size,0,none⟩)),(8,.slice kc (Ae (Ah ys)).length c18),(11,.pointer (some ⟨b11,0,none⟩)),(12,.pointer (some ⟨b12,0,none⟩))]) ?_ ⟨rfl,rfl,rfl,rfl,rfl,rfl,rfl,trivial⟩;refine sF 4 ?_;refine .q ?_;refine .on (fun _ c=>rC (c.blk f sm) D) ?_;refine .q ?_;refine FL.au (ψ:=fun v w'=>Ao 0 w' v (Ah ys:Int)) CT rfl rfl rfl ?_ (Am.aF 0 _) ?_
  ·intro hq z;have:=DR (base:=0) hq false _ _ (o.ext z).sl oo BI;rw[Al]at this;exact cM this
  have kv:sz ((Ah ys:Nat):Int)<=1000000:=Ar kj hl;refine FL.au FJ rfl rfl rfl (fun hq z kx kf=>cM (Kw (base:=0) ((D.ext z).dn h6) (kf.dn kv) BI)) (Am.aF 0 _) ?_;refine FL.aG rfl ?_;intro hq z hh hi kx _ _ _;rw[<- hm]at hi;replace l:=l.ext z;replace m:=m.ext z;replace d:=d.ext z;replace g:=g.ext z;replace y:=y.ext z;replace j:=j.ext z;replace f:=f.ext z;replace N:=N.trans z;clear z;refine Af.aK rfl rfl f D.two.1 hi N (by have:=l.lt;omega) ?_;intro up U S P ha;replace m:=m.upd S oo;replace d:=d.upd S oo;replace g:=g.upd S oo;replace y:=y.upd S hn;replace j:=Ao.upd j S ⟨_,f⟩;clear N S f D hi o l;refine A7 ?_;refine .p (A0.bB rfl m rfl rfl) ?_;refine .s (oK Dd (EZ (kD.ext ha))) ?_;rintro _ uq ⟨K,rfl⟩;replace d:=d.ext K;replace g:=g.ext K;replace y:=y.ext K;replace j:=j.ext K;replace U:=U.ext K;replace P:=P.ext K;replace ha:=ha.trans K;clear K;have k5:=y.lt;have k7:=U.lt;have ua:=d.lt;have ub:=g.lt;refine A7 ?_;cases nb with
  | true =>
   refine St.aD rfl (by simp[AH,sg];omega) ?_;refine Nv ?_;refine St.sub (E':=[(4,.pointer (some ⟨w2.heap.size,0,none⟩)),(5,.pointer (some ⟨w3.heap.size,0,none⟩)),(11,.pointer (some ⟨b11,0,none⟩)),(12,.pointer (some ⟨b12,0,none⟩))]) ?_ ⟨rfl,rfl,rfl,rfl,trivial⟩;refine St.dY 5 [w2.heap.size] Dv kr rfl kr rfl rfl (A4J d.lt) ?_;refine .q ?_;refine .on (fun _ c=>rC (c.blk y sm) j) ?_;refine FL.au AW rfl rfl rfl (fun C A=>cM (Ba (base:=0) C 1 de de BI)) (Am.aF 0 _) ?_;refine FL.au FJ rfl rfl rfl (fun C A hp hj=>cM (Kw (base:=0) ((j.ext A).dn h5) (hj.dn (by decide +kernel)) BI)) (Am.aF 0 _) ?_;refine FL.one (L:=[w2.heap.size]) rfl rfl rfl rfl kr (fun _ c=>rC (c.blk U (by simp;omega)) P) ?_;refine FL.store (L:=[w2.heap.size]) A8 rfl rfl kr rfl rfl d rfl (Am.aF 0 (Q+1)) ?_ ?_
   ·intro C c hc F;exact⟨rfl,hc,rfl,F.two.1,F.two.2,F⟩
   refine FL.end (L:=[w2.heap.size]) rfl ?_;rintro C c hc F hp _ ⟨⟨b,u,Y,V,i⟩,_⟩ _;cases Y;have G:=c.blk g (by simp;omega);have T:=P.rg c;have A:=c.cC ha (by simp;omega);refine sC G T A oo ?_;intro ke X H t hb;have W:=V.upd H oo;refine A7 ?_;refine Ad.aC A8 [u,hh,.bool true] rfl ⟨⟨_,_,_,_,rfl,W,rfl,rfl,i.two.1,by simpa using i.agg⟩,⟨_,_,_,_,rfl,X,rfl,rfl,t.two.1,by simpa using t.agg⟩,rfl,trivial⟩ ⟨hb,fun M=>absurd M hk,fun _=>⟨u,hh,rfl,?_,t⟩⟩;rw[ko rfl];exact Ao.upd i H ⟨_,G⟩
  | false =>
   refine St.ay rfl (by
               have h1:¬ sg false (Ah ys)<0:=by simp[sg]
               simp only[AH,if_neg h1];split <;> decide) ?_
   refine Nv ?_;refine St.sub (E':=[(4,.pointer (some ⟨w2.heap.size,0,none⟩)),(5,.pointer (some ⟨w3.heap.size,0,none⟩)),(11,.pointer (some ⟨b11,0,none⟩)),(12,.pointer (some ⟨b12,0,none⟩))]) ?_ ⟨rfl,rfl,rfl,rfl,trivial⟩;refine St.dY 5 [w2.heap.size] Dv kr rfl kr rfl rfl (A4J d.lt) ?_;refine .q ?_;refine .on (fun _ c=>rC (c.blk y sm) j) ?_;refine FL.au AW rfl rfl rfl (fun C A=>cM (Ba (base:=0) C 1 de de BI)) (Am.aF 0 _) ?_;refine FL.au JU rfl rfl rfl (fun C A hp hj=>cM (Qx (base:=0) ((j.ext A).dn h5) (hj.dn (by decide +kernel)) BI)) (Am.aF 0 _) ?_;refine FL.one (L:=[w2.heap.size]) rfl rfl rfl rfl kr (fun _ c=>rC (c.blk U (by simp;omega)) P) ?_;refine FL.store (L:=[w2.heap.size]) A8 rfl rfl kr rfl rfl d rfl (Am.aF 0 (Q - 1)) ?_ ?_
   ·intro C c hc F;exact⟨rfl,hc,rfl,F.two.1,F.two.2,F⟩
   refine FL.end (L:=[w2.heap.size]) rfl ?_;rintro C c hc F hp _ ⟨⟨b,u,Y,V,i⟩,_⟩ _;cases Y;have G:=c.blk g (by simp;omega);have T:=P.rg c;have A:=c.cC ha (by simp;omega);refine sC G T A oo ?_;intro ke X H t hb;have W:=V.upd H oo;refine A7 ?_;refine Ad.aC A8 [u,hh,.bool true] rfl ⟨⟨_,_,_,_,rfl,W,rfl,rfl,i.two.1,by simpa using i.agg⟩,⟨_,_,_,_,rfl,X,rfl,rfl,t.two.1,by simpa using t.agg⟩,rfl,trivial⟩ ⟨hb,fun M=>absurd M hk,fun _=>⟨u,hh,rfl,?_,t⟩⟩;rw[km rfl];exact Ao.upd i H ⟨_,G⟩
 ·obtain⟨kn,hm⟩:=kl hf;refine St.ay rfl (by simp only[AH,if_neg hf];split <;> decide) ?_;refine Nv ?_;refine St.sub (E':=[(4,.pointer (some ⟨w2.heap.size,0,none⟩)),(5,.pointer (some ⟨w3.heap.size,0,none⟩)),(11,.pointer (some ⟨b11,0,none⟩)),(12,.pointer (some ⟨b12,0,none⟩))]) ?_ ⟨rfl,rfl,rfl,rfl,trivial⟩;refine St.dY 3 [w2.heap.size] Dv kr rfl kr rfl rfl (A4J d.lt) ?_;refine .q ?_;refine .on (fun _ c=>rC (c.blk y sm) j) ?_;refine FL.one (L:=[w2.heap.size]) rfl rfl rfl rfl kr (fun _ c=>rC (c.blk f (by simp;omega)) D) ?_;refine FL.store (L:=[w2.heap.size]) A8 rfl rfl kr rfl rfl d rfl (Am.aF 0 Q) ?_ ?_
  ·intro C c;exact⟨rfl,_,rfl,j.two.1,j.two.2,j.rg c⟩
  refine FL.end (L:=[w2.heap.size]) rfl ?_;rintro C c ⟨⟨b,u,Y,V,i⟩,_⟩ _;cases Y;have G:=c.blk g (by simp;omega);have T:=D.rg c;have A:=c.cC N (by simp;omega);refine sC G T A oo ?_;intro ke X H t hb;have W:=V.upd H oo;refine A7 ?_;refine Ad.aC A8 [u,kd,.bool true] rfl ⟨⟨_,_,_,_,rfl,W,rfl,rfl,i.two.1,by simpa using i.agg⟩,⟨_,_,_,_,rfl,X,rfl,rfl,t.two.1,by simpa using t.agg⟩,rfl,trivial⟩ ⟨hb,fun M=>absurd M hk,fun _=>⟨u,kd,rfl,?_,?_⟩⟩
  ·rw[kn];exact Ao.upd i H ⟨_,G⟩
  ·rw[hm];exact t
def A8W (a b:Int):Int:=if b=0 then 0 else a / b
def A4L (a b:Int):Int:=if b=0 then 0 else a % b
theorem DS (base:Nat) (w:World):Ao base w (FM false (.slice none 0 0)) 0:=⟨none,0,rfl,Ei.nil _ _⟩
theorem A4x.open {base:Nat}{w:World}{r:Value}{a b:Int}(h:A4x base w r a b):∃ q m,r=.tuple #[q,m,.bool (decide (b≠0))]/\Ao base w q (A8W a b)/\Ao base w m (A4L a b):=by
 unfold A8W A4L;by_cases c:b=0
 ·rw[if_pos c,if_pos c];exact⟨_,_,by rw[h.1 c];simp[c],DS _ _,DS _ _⟩
 ·rw[if_neg c,if_neg c];obtain⟨q,m,e,g,d⟩:=h.2 c;exact⟨q,m,by rw[e];simp[c],g,d⟩
theorem A6C {w:World}{x y:Value}{a b:Int}(h:Dn w x a) (k:Dn w y b):Calls prog 184 #[x,y] w (AJ fun r w'=>Ac w w'/\Ao 0 w' r (A4L a b)):=by have u:=h;have K:=k;obtain⟨na,xs,⟨p,cap,rfl,S⟩,V,R⟩:=h;obtain⟨nb,ys,⟨q,cb,rfl,ks⟩,W,Q⟩:=k;refine cS func184 ntmps184 ?_;refine Nv ?_;refine .s (oB) ?_;rintro _ w1 ⟨rfl,O,F,Y⟩;refine .s (oB) ?_;rintro _ w2 ⟨rfl,P,G,Z⟩;refine .s (oA) ?_;rintro _ w3 ⟨rfl,l,X,ha⟩;refine Nv ?_;refine .p (A0.bB rfl EC (by first | rfl | assumption) (by first | rfl | assumption)) ?_;refine .p (A0.bB rfl EC (by first | rfl | assumption) (by first | rfl | assumption)) ?_;have g:Ac w w3:=EC;refine .s (oK OQ (V8 (u.ext g) (K.ext g))) ?_;rintro _ w4 ⟨j,n⟩;obtain⟨qv,mv,rfl,B,A⟩:=n.open;refine .r rfl ?_;refine .s (oA) ?_;rintro _ w5 ⟨rfl,m,d,hb⟩;refine .s (oA) ?_;rintro _ L ⟨rfl,t,c,hc⟩;have E:Ac w L:=((g.trans j).trans d).trans c;have T:=l.lt;have U:=j.size;have C:=(F.trans G).size;refine sC (m.ext c) ((B.ext d).ext c) E oo ?_;intro w7 N e _ H;have f:=t.upd e oo;refine sC f (Ao.upd ((A.ext d).ext c) e ⟨_,m.ext c⟩) H oo ?_;intro M v D o I;have z:Aj 37 M w2.heap.size _:=(((((l.ext j).ext d).ext c).upd e oo).upd D oo);refine A7 ?_;refine .p (rC v o) ?_;refine Af.aJ rfl rfl z rfl o I C ?_;intro w' J i fin;refine Nv ?_;exact fin _ _ rfl ⟨J,i⟩
theorem Py (a:Int):(AH a == 0)=decide (a=0):=by
 unfold AH;by_cases h:a<0
 ·rw[if_pos h,decide_eq_false oo];rfl
 ·rw[if_neg h];by_cases c:a=0
  ·rw[if_pos c,decide_eq_true c];rfl
  ·rw[if_neg c,decide_eq_false c];rfl
theorem A4M (x y:Nat) (c:y≠0):A4L (x:Int) (y:Int)=((x % y:Nat):Int):=by unfold A4L;rw[if_neg oo];rfl
theorem A6D {w:World}{x y:Value}{a b:Int}(h:Dn w x a) (k:Dn w y b):Calls prog 131 #[x,y] w (AJ fun r w'=>Ac w w'/\Ao 0 w' r ((Nat.gcd a.natAbs b.natAbs:Nat):Int)):=by
 have hD:=h;have kD:=k;have hg:sz (a.natAbs:Int)<=1000000:=Ar (I9 AO) h.bM;have hh:sz (b.natAbs:Int)<=1000000:=Ar (I9 AO) k.bM;obtain⟨na,xs,⟨p,cap,rfl,hs⟩,hx,hv⟩:=h;obtain⟨nb,ys,⟨q,cb,rfl,ks⟩,hz,hl⟩:=k;refine cS func131 ntmps131 ?_;refine Nv ?_;refine .s (oB) ?_;rintro _ w1 ⟨rfl,hq,D,h0⟩;refine .s (oB) ?_;rintro _ w2 ⟨rfl,hr,E,h1⟩;refine .s (oA) ?_;rintro _ w3 ⟨rfl,S,K,h2⟩;refine Nv ?_;refine sF 6 ?_;refine .q ?_;refine FL.aA (L:=[]) A8 rfl rfl rfl rfl rfl rfl EC sm AO rfl ?_;refine FL.au Pj rfl rfl rfl (fun X u=>cM (XY (base:=0) (hD.ext (((D.trans E).trans K).trans u)) BI)) (Am.aF 0 _) ?_;refine FL.aA (L:=[]) A8 rfl rfl rfl rfl rfl rfl EC sm AO rfl ?_;refine FL.au Pj rfl rfl rfl (fun X u=>cM (XY (base:=0) (kD.ext (((D.trans E).trans K).trans u)) BI)) (Am.aF 0 _) ?_;refine FL.alloc A8 rfl rfl rfl rfl ?_;refine FL.alloc A8 rfl rfl rfl rfl ?_;refine FL.aG rfl ?_;rintro X u _ ⟨b6,C6,rfl,hu,Q,he⟩ _ ⟨b5,C5,rfl,ht,G,hd⟩ ho M v8 P _ T;have A:b5≠b6:=by intro e;exact T 5 de 6 de de _ rfl (by rw[e];rfl)
 have hw:=S.lt;have hf:=(D.trans E).size;have j:=S.ext u;have hj:=((D.trans E).trans K).trans u;refine Af.aK rfl rfl G hd P hj oo ?_;intro w5 c B i V;have H:=Q.upd B (fun e=>A e.symm);refine Af.aK rfl rfl H he (Ao.upd M B ⟨_,G⟩) V oo ?_;intro w6 l C N W;replace c:=c.upd C A;replace i:=Ao.upd i C ⟨_,H⟩;replace j:=(j.upd B oo).upd C oo;clear V B C G Q H P M u T;refine Nv ?_;refine St.loop (fun g:(Value×Value)×Nat×Nat=>[(4,.pointer (some ⟨w2.heap.size,0,none⟩)),(5,.pointer (some ⟨b5,0,none⟩)),(6,.pointer (some ⟨b6,0,none⟩))])
  (fun g w'=>Ac w w'/\Aj 37 w' b5 g.1.1.cells.toList/\Aj 37 w' b6 g.1.2.cells.toList/\Ao 0 w' g.1.1 (g.2.1:Int)/\Ao 0 w' g.1.2 (g.2.2:Int)/\Aj 37 w' w2.heap.size [.bool false,.slice none 0 0]/\sz (g.2.1:Int)<=1000000/\sz (g.2.2:Int)<=1000000/\Nat.gcd g.2.1 g.2.2=Nat.gcd a.natAbs b.natAbs)
  (fun g=>g.2.2) ((v8,ho),a.natAbs,b.natAbs) ⟨rfl,rfl,rfl,trivial⟩ ⟨W,c,l,i,N,j,hg,hh,rfl⟩ ?_
 clear W c l i N j;rintro⟨⟨v5,v6⟩,x,y⟩ w7 ⟨v,c,l,m,d,j,U,f,n⟩;dsimp only at v c l m d j U f n ⊢;refine Nv ?_;refine .p (rC l d) ?_;refine .s (oK Dd (EZ (d.dn f))) ?_;rintro _ w8 ⟨z,rfl⟩;replace c:=c.ext z;replace l:=l.ext z;replace m:=m.ext z;replace d:=d.ext z;replace j:=j.ext z;replace v:=v.trans z;clear z;by_cases F:y=0
 ·subst F;refine .a 1 (.bool false) rfl rfl ?_;refine Nv ?_;refine .cf ?_;refine .p (rC c m) ?_;rw[Nat.gcd_zero_right]at n;rw[n]at m;refine Af.aJ rfl rfl j rfl m v hf ?_;intro w' hn hc fin;refine Nv ?_;exact fin _ _ rfl ⟨hn,hc⟩
 ·refine .a 1 (.bool true) rfl (by have:=Py (y:Int);rw[decide_eq_false oo]at this;show Value.bool (!(AH (y:Int) == 0))=_;rw[this];rfl) ?_
  refine Nv ?_;refine .cT ?_;refine Nv ?_;refine St.sub (E':=[(4,.pointer (some ⟨w2.heap.size,0,none⟩)),(5,.pointer (some ⟨b5,0,none⟩)),(6,.pointer (some ⟨b6,0,none⟩))]) ?_ ⟨rfl,rfl,rfl,trivial⟩;refine sF 4 ?_;refine .q ?_;refine .on (fun _ t=>rC (t.blk l sm) d) ?_;refine .on (fun _ t=>rC (t.blk c sm) m) ?_;refine .on (fun _ t=>rC (t.blk l sm) d) ?_;refine FL.au A0H rfl rfl rfl (fun w9 o=>cM (A6C ((m.ext o).dn U) ((d.ext o).dn f))) (Am.aF 0 _) ?_;refine FL.aG rfl ?_;intro w9 o hp O _ _;rw[A4M x y F]at O;replace c:=c.ext o;replace l:=l.ext o;replace m:=m.ext o;replace d:=d.ext o;replace j:=j.ext o;replace v:=v.trans o;clear o;refine Af.aK rfl rfl c m.two.1 d v oo ?_;intro h3 ha I Z hk;have R:=l.upd I (fun e=>A e.symm);refine Af.aK rfl rfl R d.two.1 (Ao.upd O I ⟨_,c⟩) hk oo ?_;intro h4 hb J Y hm;have hi:sz ((x % y:Nat):Int)<=1000000:=Ar (I9 (b:=(y:Int)) (by have:=CX x (LM F);omega)) f;refine A7 ?_;refine Ad.again ((v6,hp),y,x % y) ⟨rfl,rfl,rfl,trivial⟩ ⟨hm,ha.upd J A,hb,Ao.upd Z J ⟨_,R⟩,Y,(j.upd I oo).upd J oo,f,hi,?_⟩ (CX _ (LM F));dsimp only;rw[<- n,TP x y,Nat.gcd_rec y x,TP]
def zI:Value:=FM false (.slice none 0 0)
theorem A4N (m:Nat):(List.range (m * 2)).map (fun x=>(#[.bool false,.slice none 0 0]:Array Value)[x % 2]!)=AV (List.replicate m zI):=by
 induction m with
 | zero=>rfl
 | succ m ih =>
  have e:AV (List.replicate (m+1) zI)=AV (List.replicate m zI)++[.bool false,.slice none 0 0]:=by unfold AV;rw[List.replicate_succ',LU];rfl
  rw[e,<- ih,show (m+1) * 2=m * 2+1+1 by omega,Iv,Iv,Ev,Ev,EO];congr 1;have c:m * 2 % 2=0:=by omega
  have d:(m * 2+1) % 2=1:=by omega
  simp only[Er,J4,c,d];rfl
theorem Av.dZ {n:Nat}{E:List (Nat×Value)}{w:World}{d:Option Tmp}{x y:Operand}{ty:TypeId}{pos:String}{af:Array Edge}{g:Option (Nat×Bool)}{k k':IntKind}{iv jv:Int}(m:Nat)
  (B:ov E x=some (.int k iv)) (f:iv=m) (C:ov E y=some (.int k' jv)) (h:jv=m) (D:m<=1000000) :
  Av prog n ⟨d,.makeSlice 122 x y,ty,pos,af,g⟩ E w (fun v w'=>v=.slice (some ⟨w.heap.size,0,none⟩) m m/\Aj 37 w' w.heap.size (AV (List.replicate m zI))/\Ac w w'/\w'.heap.size=w.heap.size+1):=by
 intro a j Q K z;subst f h;obtain⟨_,inf,q,F,l,r⟩:=A8 37 _ rfl;have e:=Ag (P:=prog) (w:=w) A8 (t:=122) rfl;have c:=AK (P:=prog) (w:=w) A8 (t:=37) rfl;dsimp only at l r e c;have e1:=j.eval B;have e2:=j.eval C;have A:IntKind.i64.wrap (m:Int)=m:=Ab oo oo;have b:¬ ((decide (((m:Nat):Int)<0) || decide (((32:Nat):Int) * ((m:Nat):Int) > 2 ^ 48) || decide (((m:Nat):Int)<0) || decide (((m:Nat):Int) > ((m:Nat):Int)))=true):=by simp only[H9,decide_eq_true_eq];omega
 have p:¬ (m * 32 > roomBytes):=by unfold roomBytes;omega
 have o:((Array.range (m * 2)).map (fun x=>(#[.bool false,.slice none 0 0]:Array Value)[x % 2]!))=(AV (List.replicate m zI)).toArray:=by rw[<- A4N];apply Array.ext';simp[Array.toList_range]
 have s:(execOp a.eval ⟨d,.makeSlice 122 x y,ty,pos,af,g⟩).run prog w=.ok (.value (.slice (some ⟨w.heap.size,0,none⟩) m m)) (w.alloc (.cells (AV (List.replicate m zI)).toArray 37 (0,0))):=by
  generalize a.eval=ρ at e1 e2;have i:(Instr.makeSlice 122 (.int k m) (.int k' m)).run prog w=.ok (.slice (some ⟨w.heap.size,0,none⟩) m m) (w.alloc (.cells (AV (List.replicate m zI)).toArray 37 (0,0))):=by
   unfold Instr.makeSlice;simp only[Bq,e,Bp,asInt,asIntOf,AX,BZ q,l,A];rw[if_neg b];simp only[Bq,AX,Bp,Cj,askRoom,if_neg p,c];by_cases u:m=0
   ·subst u;simp[newRow,AV,go_sem]
   ·rw[if_neg oo];simp only[Bq,zeroValue,BZ q,AX,Bp,r,Value.cells,Ty,BR,Fj,AE,o];simp[newRow,o,go_sem]
  simp only[execOp,e1,e2,Bq,i,Bp,AX]
 unfold Oper.wp;rw[s,Oper.upon_value];refine z _ _ ⟨rfl,?_,Da _ _,Dc _ _⟩;have:=DN w 37 (AV (List.replicate m zI)).toArray;simpa using this
theorem A8X:zI.cells.toList.length=2/\∀ c ∈ zI.cells.toList,c.oneCell'=true:=⟨rfl,by simp[zI,FM,Value.cells,Value.oneCell']⟩
theorem A1c (m:Nat):M8 2 (List.replicate m zI):=fun u hu=>by rw[BU hu];exact A8X
section
variable {k:Nat}{te e:TypeId}{base:Nat}{w w':World}{v:Value}{rs:List Value}{R:List (List Value)}
theorem DE.setRow (h:DE k te e base w v rs R) (C:e≠te) {i:Nat}{r:Value}{us:List Value}(m:i<rs.length) (N:Aq k e base w r us) (y:r.cells=#[r]) (M:r.oneCell'=true)
  (A:∀ (j:Nat) (s:Value),j≠i->rs[j]?=some s->s.ownBlock=r.ownBlock->r.ownBlock=none) :
  ∃ g cap D,v=.slice (some ⟨g,0,none⟩) rs.length cap/\base<=g/\Aj te w g (rs++D)/\rs.length<=cap/\rs.length+D.length=cap /\
   ∀ w',CE g w w'->Aj te w' g ((rs++D).set i r)->DE k te e base w' v (rs.set i r) (R.set i us):=by
 obtain⟨z,F,t,G,H⟩:=h;obtain⟨g,cap,D,hv,B,q,K,f,L⟩:=z.open (by intro e;rw[e]at m;simp at m);rw[CO rs t]at q;refine⟨g,cap,D,hv,B,q,f,by omega,fun w' E J=>?_⟩;have O:(rs++D).set i r=rs.set i r++D:=NR _ _ m;have p:∀ x ∈ rs.set i r,x.cells=#[x]:=by
  intro x d;rcases LF d with d | d
  ·exact t x d
  ·subst d;exact y
 refine⟨⟨?_,.inr ⟨g,cap,D,by rw[hv,EP],B,?_,by rw[EP];exact K,by rw[EP];exact f,L⟩⟩,by simpa using F,p,?_,?_⟩
 ·intro x d;rcases LF d with d | d
  ·exact z.1 x d
  ·subst d;exact⟨by rw[y];rfl,by rw[y];intro c n;simp at n;subst n;exact M⟩
 ·rw[CO _ p,<- O];exact J
 ·intro i' r' P l u;by_cases e1:i=i'
  ·subst e1;rw[Bx m]at l;rw[Bx oo]at u;cases l;cases u;exact N.aI E q C
  ·rw[Ce e1]at l u;exact (G i' r' P l u).aI E q C
 ·intro a b r' s' I l o e2;by_cases ea:i=a
  ·subst ea;rw[Bx m]at l;cases l;rw[Ce oo]at o;exact A b s' oo o e2.symm
  ·rw[Ce ea]at l;by_cases eb:i=b
   ·subst eb;rw[Bx m]at o;cases o;rw[e2];exact A a r' oo l e2
   ·rw[Ce eb]at o;exact H a b r' s' I l o e2
theorem DE.cH (h:DE k te e base w v rs R) {i:Nat}{s:Value}{b:Nat}(d:rs[i]?=some s) (c:s.ownBlock=some b):b<w.heap.size:=by
 obtain⟨m,o,q,j,r⟩:=h;have u:=(Au.1 d).1;have l:R[i]?=some (R[i]'oo):=by simp
 rcases (j i s _ d l).2 with ⟨h0,_⟩ | ⟨g,cap,D,hv,hg,hbk,_⟩
 ·rw[h0]at c;cases c
 ·rw[hv]at c;have:g=b:=by simpa[Value.ownBlock] using c
  subst this;exact hbk.lt
end
theorem L9 {base:Nat}(w:World) (r c:Nat) (M:r<=1000) (I:c<=1000) (q:base<=w.heap.size) :
  Calls prog 148 #[.int .i64 r,.int .i64 c] w (AJ fun v w'=>Ac w w'/\∃ rs,DE 2 122 37 base w' v rs (List.replicate r (List.replicate c zI))):=by
 refine cS func148 ntmps148 ?_;refine A7 ?_;refine .s (Av.make A8 r rfl rfl rfl rfl rfl rfl rfl rfl (by show r * 24<=_;omega) oo) ?_;rintro v w1 ⟨rfl,B,G,O⟩;have b:DE 2 122 37 base w1 (.slice (some ⟨w.heap.size,0,none⟩) r r) (List.replicate r (.slice none 0 0)) (List.replicate r []):=by
  refine⟨⟨?_,.inr ⟨w.heap.size,r,[],by rw[He],q,?_,by simp,by simp,by unfold maxLen;omega⟩⟩,by simp,?_,?_,?_⟩
  ·intro u hu;rw[BU hu];exact⟨rfl,by simp[Value.cells,Value.oneCell']⟩
  ·rw[CO _ (fun u hu=>by rw[BU hu];rfl),D7];exact B
  ·intro u hu;rw[BU hu];rfl
  ·intro i s us k F;have e1:=BU (Bi k);have e2:=BU (Bi F);subst e1;subst e2;exact Aq.nil
  ·intro i j s t _ k _ _;rw[BU (Bi k)];rfl
 refine A7 ?_;refine St.loop (fun g:Nat×List Value=>[(1,.int .i64 c),(5,.slice (some ⟨w.heap.size,0,none⟩) r r),(10,.int .i64 r),(11,.int .i64 g.1)])
  (fun g w'=>Ac w w'/\g.1<=r/\DE 2 122 37 base w' (.slice (some ⟨w.heap.size,0,none⟩) r r) g.2 (List.replicate g.1 (List.replicate c zI)++List.replicate (r - g.1) [])) (fun g=>r - g.1) (0,_) ⟨rfl,rfl,rfl,rfl,trivial⟩ ⟨G,Cu _,by simpa using b⟩ ?_
 rintro⟨i,rs⟩ w2 ⟨l,x,d⟩;dsimp only at x d ⊢;have N:rs.length=r:=by have:=d.2.1;simp at this;omega
 by_cases A:i<r
 ·refine Nv ?_;refine .a 1 (.bool true) rfl (Aa oo) ?_;refine Nv ?_;refine .ct ?_;refine .s (Av.dZ c rfl rfl rfl rfl oo) ?_;rintro _ w3 ⟨rfl,B3,z,P⟩;have n:∀ (j:Nat) (s:Value),j≠i->rs[j]?=some s->s.ownBlock=(Value.slice (some ⟨w2.heap.size,0,none⟩) c c).ownBlock->(Value.slice (some ⟨w2.heap.size,0,none⟩) c c).ownBlock=none:=by intro j s _ k e;have:w2.heap.size<w2.heap.size:=d.cH k e;omega
  obtain⟨g,cap,D,hv,L,h,K,J,E⟩:=(d.ext z).setRow de (i:=i) (r:=.slice (some ⟨w2.heap.size,0,none⟩) c c) (us:=List.replicate c zI) oo
   ⟨A1c c,.inr ⟨w2.heap.size,c,[],by rw[He],Ar q l.size,by rw[D7];exact B3,by simp;omega,by simp,by unfold maxLen;omega⟩⟩ rfl rfl n
  simp only[Ci,AP,FF,and_true]at hv;obtain⟨rfl,_,rfl⟩:=hv;refine Af.put A8 i h rfl A (by simp;omega) rfl rfl rfl rfl rfl rfl rfl rfl (fun _=>rfl) (fun _=>rfl) rfl rfl ?_;intro p H o y;rw[AE]at o;have f:=E H y o;refine A7 ?_;refine Ad.again (i+1,rs.set i (.slice (some ⟨w2.heap.size,0,none⟩) c c)) ⟨rfl,rfl,rfl,?_,trivial⟩ ⟨(l.trans z).aj y AO,by dsimp only;omega,?_⟩ (by dsimp only;omega)
  ·show some (Value.int .i64 (IntKind.i64.wrap ((i:Int)+1)))=_;rw[Ab oo oo];rfl
  ·have e:(List.replicate i (List.replicate c zI)++List.replicate (r - i) []).set i (List.replicate c zI)=List.replicate (i+1) (List.replicate c zI)++List.replicate (r - (i+1)) []:=by obtain⟨m,C⟩:∃ m,r - i=m+1:=⟨r - i - 1,by omega⟩;have e1:List.replicate (m+1) ([]:List Value)=[]::List.replicate m []:=rfl;have e2:List.replicate (i+1) (List.replicate c zI)=List.replicate i (List.replicate c zI)++[List.replicate c zI]:=List.replicate_succ';rw[C,show r - (i+1)=m by omega,TK _ _ sm,He,J6,e1,e2,TL,EO];rfl
   rw[<- e];exact f
 ·refine Nv ?_;refine .a 1 (.bool false) rfl (A9 oo) ?_;refine Nv ?_;refine .cf ?_;have:i=r:=by omega
  subst this;refine uR ⟨l,rs,?_⟩;simpa using d
variable {f:Nat->Nat->Int}{base i c j:Nat}{M:List (List Int)}{rs:List Value}
def mk (r c:Nat) (f:Nat->Nat->Int):List (List Int):=(List.range r).map fun a=>(List.range c).map fun b=>f a b
def Eg (f:Nat->Nat->Int) (i j:Nat) (y:Int):Nat->Nat->Int:=fun a b=>if a=i/\b=j then y else f a b
theorem AU (r c:Nat) (f:Nat->Nat->Int):(mk r c f).length=r:=by simp[mk]
theorem BK {r:Nat}(h:i<r):(mk r c f)[i]?=some ((List.range c).map (f i)):=by simp[mk,h]
theorem Fu {f:Nat->Int}(h:j<c):((List.range c).map f)[j]?=some (f j):=by simp[h]
theorem BV {r:Nat}{g:Nat->Nat->Int}(h:∀ a b,a<r->b<c->f a b=g a b):mk r c f=mk r c g:=by unfold mk;apply NY;intro a d;apply NY;intro b e;exact h a b (CZ.1 d) (CZ.1 e)
theorem K4 {r:Nat}{y:Int}(k:i<r) (l:j<c):(mk r c f).set i (((List.range c).map (f i)).set j y)=mk r c (Eg f i j y):=by
 apply Fk;intro a;by_cases e:i=a
 ·subst e;rw[Bx (by rw[AU];exact k),BK k];congr 1;apply Fk;intro b;by_cases e2:j=b
  ·subst e2;rw[Bx (by simpa using l),Fu l];simp[Eg]
  ·rw[Ce e2];by_cases g:b<c
   ·rw[Fu g,Fu g];simp[Eg,Ne.symm e2]
   ·rw[BJ (by simp;omega),BJ (by simp;omega)]
 ·rw[Ce e];by_cases d:a<r
  ·rw[BK d,BK d];congr 1;apply NY;intro b _;simp[Eg,Ne.symm e]
  ·rw[BJ (by rw[AU];omega),BJ (by rw[AU];omega)]
theorem DE.cP {r:Nat}{w:World}{v:Value}(h:DE 2 122 37 base w v rs (List.replicate r (List.replicate c zI))):BH rs base w v (mk r c fun _ _=>0):=by
 refine⟨_,h,by rw[AU,He],fun i us row m d=>?_⟩;have k:i<r:=by have:=(Au.1 d).1;rw[AU]at this;exact this
 rw[BK k]at d;cases d;have e:=BU (Bi m);subst e;refine⟨by simp,fun j u x hu g=>?_⟩;have e2:=BU (Bi hu);subst e2;have l:j<c:=by have:=(Au.1 g).1;simpa using this
 rw[Fu l]at g;cases g;exact DS 0 w
def ent (M:List (List Int)) (a b:Nat):Int:=(M.getD a []).getD b 0
def okM (M:List (List Int)):Prop:=1<=M.length/\M.length<=16/\∀ (i:Nat) (row:List Int),M[i]?=some row->1<=row.length/\row.length<=16/\row.length=(M.getD 0 []).length
theorem A1d (h:okM M):mk M.length (M.getD 0 []).length (ent M)=M:=by
 apply Fk;intro i;by_cases e:i<M.length
 ·have c:M[i]?=some M[i]:=by simp
  rw[BK e,c];congr 1;have k:=(h.2.2 i _ c).2.2;apply Fk;intro j;by_cases d:j<(M.getD 0 []).length
  ·rw[Fu d];have g:j<(M[i]).length:=by omega
   unfold ent;simp[Bd,c,g]
  ·rw[BJ (by simp at d ⊢;omega),BJ oo]
 ·rw[BJ (by rw[AU];omega),BJ oo]
theorem A2m {row:List Int}{x:Int}(c:M[i]?=some row) (d:row[j]?=some x):ent M i j=x:=by unfold ent;simp[Bd,c,d]
theorem RL {a:Nat}(h:a=b):Value.bool ((a:Int) != (b:Int))=.bool false:=by subst h;rw[show ((a:Int) != (a:Int))=false from by simp]
theorem ZD {a:Nat}(h:a≠b):Value.bool ((a:Int) != (b:Int))=.bool true:=by rw[show ((a:Int) != (b:Int))=true from by simp;omega]
theorem OZ (w:World) (v:Value) (M:List (List Int)) (h:Ft w v M) (Z:base<=w.heap.size) (X:∀ row ∈ M,∀ x ∈ row,-9223372036854775808<=x/\x<=9223372036854775807) :
  Calls prog 105 #[v] w (AJ fun r w'=>Ac w w'/\((okM M/\∃ u rs,r=.tuple #[u,.bool true]/\BH rs base w' u M)\/(¬ okM M/\r=.tuple #[.slice none 0 0,.bool false]))):=by
 have C:=h;obtain⟨p0,n,rfl⟩:=h.len;refine cS func105 ntmps105 ?_;refine Nv ?_;refine .r rfl ?_;refine Nv ?_;by_cases c1:M.length<1
 ·refine .a 3 (.bool true) rfl (Aa oo) ?_;refine A7 ?_;refine .ct ?_;exact Ad.aC A8 [_,_] rfl ⟨rfl,rfl,trivial⟩ ⟨Ac.refl _,.inr ⟨fun h=>by have:=h.1;omega,rfl⟩⟩
 refine .a 3 (.bool false) rfl (A9 oo) ?_;by_cases c2:16<M.length
 ·refine .a 4 (.bool true) rfl (Aa oo) ?_;refine A7 ?_;refine .ct ?_;exact Ad.aC A8 [_,_] rfl ⟨rfl,rfl,trivial⟩ ⟨Ac.refl _,.inr ⟨fun h=>by have:=h.2.1;omega,rfl⟩⟩
 refine .a 4 (.bool false) rfl (A9 oo) ?_;refine A7 ?_;refine .cF ?_;obtain⟨d,K⟩:∃ d,M[0]?=some d:=⟨M[0]'oo,by simp⟩;have D:M.getD 0 []=d:=by simp[Bd,K]
 obtain⟨rs,r0,l,S,Y⟩:=C.row K;obtain⟨q0,k0,rfl⟩:=Y.len;refine A7 ?_;refine St.loop (fun i:Nat=>[(0,.slice p0 M.length n),(17,.slice p0 M.length n),(18,.int .i64 M.length),(19,.int .i64 i)])
  (fun i w'=>w'=w/\i<=M.length/\∀ (j:Nat) (row:List Int),j<i->M[j]?=some row->1<=row.length/\row.length<=16/\row.length=d.length) (fun i=>M.length - i) 0 ⟨rfl,rfl,rfl,rfl,trivial⟩ ⟨rfl,Cu _,fun j row B=>by omega⟩ ?_
 rintro i w' ⟨hw,R,H⟩;subst hw;by_cases E:i<M.length
 ·obtain⟨row,k⟩:∃ row,M[i]?=some row:=⟨M[i],by simp⟩;obtain⟨rs',r,o,z,m⟩:=C.row k;obtain⟨q1,k1,rfl⟩:=m.len;refine Nv ?_;refine .a 1 (.bool true) rfl (Aa oo) ?_;refine Nv ?_;refine .ct ?_;refine Af.elem A8 i _ o z rfl rfl rfl rfl rfl rfl rfl rfl rfl rfl rfl (fun _=>rfl) ?_;intro p;refine .r rfl ?_;refine Nv ?_;have I:∀ (t:¬ (1<=row.length/\row.length<=16/\row.length=d.length)),¬ okM M:=fun t hk=>t (by have:=hk.2.2 i row k;rw[D]at this;exact this);by_cases d1:row.length<1
  ·refine .a 3 (.bool true) rfl (Aa oo) ?_;refine .r rfl ?_;(iterate 6 try refine Af.skipU rfl rfl rfl rfl rfl ?_);refine A7 ?_;refine .ct ?_;exact Ad.aC A8 [_,_] rfl ⟨rfl,rfl,trivial⟩ ⟨Ac.refl _,.inr ⟨I oo,rfl⟩⟩
  refine .a 3 (.bool false) rfl (A9 oo) ?_;by_cases d2:16<row.length
  ·refine .a 4 (.bool true) rfl (Aa oo) ?_;refine A7 ?_;refine .ct ?_;exact Ad.aC A8 [_,_] rfl ⟨rfl,rfl,trivial⟩ ⟨Ac.refl _,.inr ⟨I oo,rfl⟩⟩
  refine .a 4 (.bool false) rfl (A9 oo) ?_;refine .r rfl ?_;refine Af.elem A8 0 _ l S rfl rfl rfl rfl rfl rfl rfl rfl rfl rfl rfl (fun _=>rfl) ?_;intro p';by_cases d3:row.length=d.length
  ·refine .a 2 (.bool false) rfl (RL oo) ?_;refine A7 ?_;refine .cf ?_;refine Ad.again (i+1) ⟨rfl,rfl,rfl,?_,trivial⟩ ⟨rfl,by omega,?_⟩ oo
   ·show some (Value.int .i64 (IntKind.i64.wrap ((i:Int)+1)))=_;rw[Ab oo oo];rfl
   ·intro j row' B J;by_cases e:j<i
    ·exact H j row' e J
    ·have:j=i:=by omega
     subst this;rw[k]at J;cases J;exact⟨by omega,by omega,d3⟩
  ·refine .a 2 (.bool true) rfl (ZD oo) ?_;refine A7 ?_;refine .ct ?_;exact Ad.aC A8 [_,_] rfl ⟨rfl,rfl,trivial⟩ ⟨Ac.refl _,.inr ⟨I oo,rfl⟩⟩
 have F:okM M:=⟨by omega,by omega,fun j row B=>by rw[D];exact H j row (by have:=(Au.1 B).1;omega) B⟩;have hs:=F.2.2 0 d K;refine Nv ?_;refine .a 1 (.bool false) rfl (A9 oo) ?_;refine Nv ?_;refine .cf ?_;refine Af.elem A8 0 _ l S rfl rfl rfl rfl rfl rfl rfl rfl rfl rfl rfl (fun _=>rfl) ?_;intro p;refine .r rfl ?_;refine .s (oK IQ (L9 (base:=w'.heap.size) w' M.length d.length oo oo AO)) ?_;rintro u w1 ⟨hg,ro,U⟩;have c:=U.cP;obtain⟨G,A,rfl⟩:=c.len;rw[AU];refine A7 ?_;refine St.loop (fun i:Nat=>[(0,.slice p0 M.length n),(6,.slice G M.length A),(49,.int .i64 M.length),(50,.int .i64 i)])
  (fun i w2=>Ac w' w2/\i<=M.length/\BH ro w'.heap.size w2 (.slice G M.length A) (mk M.length d.length (fun a b=>if a<i then ent M a b else 0))) (fun i=>M.length - i) 0 ⟨rfl,rfl,rfl,rfl,trivial⟩ ⟨hg,Cu _,?_⟩ ?_
 ·rw[AU]at c;rw[BV (g:=fun _ _=>0) (fun a b _ _=>by simp)];exact c
 clear c U H E R i;rintro i w2 ⟨L,R,c⟩;try dsimp only at c
 have hf:=c.rsl;rw[AU]at hf;by_cases E:i<M.length
 ·obtain⟨row,k⟩:∃ row,M[i]?=some row:=⟨M[i],by simp⟩;have he:=(F.2.2 i row k).2.2;rw[D]at he;obtain⟨rs',r,o,z,m⟩:=(C.ext L).row k;obtain⟨q1,k1,rfl⟩:=m.len;obtain⟨V,T⟩:∃ V,ro[i]?=some V:=⟨ro[i]'oo,by simp⟩;refine Nv ?_;refine .a 1 (.bool true) rfl (Aa oo) ?_;refine Nv ?_;refine .ct ?_;refine Af.elem A8 i _ o z rfl rfl rfl rfl rfl rfl rfl rfl rfl rfl rfl (fun _=>rfl) ?_;intro p;refine A7 ?_;refine St.loop (fun j:Nat=>[(0,.slice p0 M.length n),(6,.slice G M.length A),(49,.int .i64 M.length),(50,.int .i64 i),(7,.int .i64 i),(57,.int .i64 row.length),(58,.int .i64 j)])
   (fun j w3=>Ac w' w3/\j<=row.length/\BH ro w'.heap.size w3 (.slice G M.length A) (mk M.length d.length (fun a b=>if a<i\/a=i/\b<j then ent M a b else 0))) (fun j=>row.length - j) 0 ⟨rfl,rfl,rfl,rfl,rfl,rfl,rfl,trivial⟩ ⟨L,Cu _,?_⟩ ?_
  ·rw[BV (g:=fun a b=>if a<i then ent M a b else 0) (fun a b _ _=>by simp)];exact c
  clear c o z m;rintro j w3 ⟨N,B,c⟩;try dsimp only at c
  by_cases ht:j<row.length
  ·obtain⟨x,t⟩:∃ x,row[j]?=some x:=⟨row[j],by simp⟩;obtain⟨rs',r,o,z,m⟩:=(C.ext N).row k;have Q:=X row (Bi k) x (Bi t);obtain⟨a1,hm,e1,hb⟩:=o.get z;have hl:(row.map DZ)[j]?=some (DZ x):=by simp[t]
   obtain⟨a2,hn,e2,hc⟩:=Jk.get m hl;subst e2;obtain⟨a3,ho,e3,hd⟩:=c.rows.get T;simp only[Ci]at e1 e3;obtain⟨rfl,hp,rfl⟩:=e1;obtain⟨rfl,hq,rfl⟩:=e3;refine Nv ?_;refine .a 1 (.bool true) rfl (Aa oo) ?_;refine Nv ?_;refine .cT ?_;refine Nv ?_;refine .r rfl ?_;refine Af.nil (Ad.ak ?_);refine St.sub (E':=[(0,.slice (some a1) M.length n),(6,.slice (some a3) M.length A),(49,.int .i64 M.length),(50,.int .i64 i),(7,.int .i64 i),(57,.int .i64 row.length),(58,.int .i64 j),(8,.int .i64 j)]) ?_ ⟨rfl,rfl,rfl,rfl,rfl,rfl,rfl,rfl,trivial⟩;refine sF 13 ?_;refine .q ?_;refine .on (fun _ _=>A0.ia) ?_;refine .on (fun _ l=>rL (l.aq.cell hd)) ?_;refine .q ?_;refine .on (fun _ _=>A0.ia) ?_;refine .on (fun _ l=>rL (l.aq.cell hb)) ?_;refine .q ?_;refine .on (fun _ _=>A0.indexAddr A8 rfl rfl rfl rfl rfl oo (by simp;omega)) ?_;refine .on (fun _ l=>rL (l.aq.cell hc)) ?_;refine FL.au AW rfl rfl rfl (fun W O=>cM (Ba (base:=0) W x Q.1 Q.2 BI)) (Am.aF 0 _) ?_;refine FL.aG rfl ?_;intro W O y hy _ _;refine Af.dL (w0:=w') (c.ext O) T (BK E) (by simp;omega) hy (N.trans O) AO rfl rfl rfl (fun _=>rfl) rfl rfl (fun _=>rfl) ?_;intro p5 w5 hh P;rw[K4 E oo]at P;refine A7 ?_;refine Ad.again (j+1) ⟨rfl,rfl,rfl,rfl,rfl,rfl,?_,trivial⟩ ⟨hh,by omega,?_⟩ oo
   ·show some (Value.int .i64 (IntKind.i64.wrap ((j:Int)+1)))=_;rw[Ab oo oo];rfl
   ·rw[BV (g:=Eg (fun a b=>if a<i\/a=i/\b<j then ent M a b else 0) i j x)]
    ·exact P
    ·intro a b _ _;unfold Eg;by_cases e:a=i/\b=j
     ·obtain⟨rfl,rfl⟩:=e;rw[if_pos (.inr ⟨rfl,by omega⟩),if_pos ⟨rfl,rfl⟩,A2m k t]
     ·rw[if_neg e];dsimp only;by_cases f:a<i\/a=i/\b<j
      ·rw[if_pos f,if_pos oo]
      ·rw[if_neg f,if_neg oo]
  ·refine Nv ?_;refine .a 1 (.bool false) rfl (A9 oo) ?_;refine Nv ?_;refine .cf ?_;refine Ad.again (i+1) ⟨rfl,rfl,rfl,?_,trivial⟩ ⟨N,by omega,?_⟩ oo
   ·show some (Value.int .i64 (IntKind.i64.wrap ((i:Int)+1)))=_;rw[Ab oo oo];rfl
   ·rw[BV (g:=fun a b=>if a<i\/a=i/\b<j then ent M a b else 0)]
    ·exact c
    ·intro a b _ _;by_cases f:a<i+1
     ·rw[if_pos f,if_pos oo]
     ·rw[if_neg f,if_neg oo]
 ·refine Nv ?_;refine .a 1 (.bool false) rfl (A9 oo) ?_;refine Nv ?_;refine .cf ?_;refine Ad.aC A8 [_,_] rfl ⟨rfl,rfl,trivial⟩ ⟨L,.inl ⟨F,_,ro,rfl,?_⟩⟩;rw[BV (g:=ent M) (fun a b ha _=>by rw[if_pos oo]),<- D,A1d F]at c;exact c.mono Z
variable {k b1 b0 r1:Nat}{α:Type}{ops:Array Oper}{T:List (Nat×TI)}{E2:List (Nat×Value)}{oc os:List Oper}
def Pz:List Oper->List (Nat×Value)->Bool
 | [],_=>true
 | o::r,K=>(match o.dst with | some d=>K.all (fun p=>!(Nat.beq p.1 d)) | none=>true) && Pz r K
theorem JL {K:List (Nat×Value)}{d:Nat}(h:K.all (fun p=>!(Nat.beq p.1 d))=true) {v:Value}(c:AR K k=some v):k≠d:=by
 induction K with
 | nil=>simp[AR]at c
 | cons p r ih =>
  obtain⟨a,b⟩:=p;simp only[List.all_cons,Et]at h;by_cases e:a=k
  ·subst e;intro e2;subst e2;simp at h
  ·rw[Bc _ _ e]at c;exact ih h.2 c
theorem GS {K:List (Nat×Value)}:∀ (m:Nat) (l:List Oper) (E:List (Nat×Value)),Pz l K=true->(∀ k v,AR K k=some v->AR E k=some v)->∀ k v,AR K k=some v->AR (AZ T n ops m E l).1 k=some v:=by
 intro m;induction m with
 | zero=>intro l E _ e k v c;exact e k v c
 | succ m ih =>
  intro l E y e k v c;cases l with
  | nil=>exact e k v c
  | cons o r =>
   simp only[Pz,Et]at y;obtain⟨g,q⟩:=y;simp only[AZ];split
   ·rename_i d j z;rw[j]at g;have keep:∀ u,∀ k v,AR K k=some v->AR ((d,u)::E) k=some v:=by intro u k v c;rw[Bc _ _ (Ne.symm (JL g c))];exact e k v c
    cases hb:Nat.blt d n with
    | false=>exact e k v c
    | true =>
     simp only[cond_true];split
     ·exact ih r _ q (keep _) k v c
     ·exact e k v c
   ·rename_i d j z;rw[j]at g;have keep:∀ u,∀ k v,AR K k=some v->AR ((d,u)::E) k=some v:=by intro u k v c;rw[Bc _ _ (Ne.symm (JL g c))];exact e k v c
    cases hb:Nat.blt d n with
    | false=>exact e k v c
    | true=>exact ih r _ q (keep _) k v c
   ·exact e k v c
theorem DM.aU {E1:List (Nat×Value)}{a:Act}(h:DM n E2 a) (d:∀ k v,AR E1 k=some v->AR E2 k=some v):DM n E1 a :=
 ⟨h.size,h.defers,fun k v c=>h.slots k v (d k v c)⟩
def Rnd (n:Nat) (K:List (Nat×Value)) (J:World->Prop) (Q:Exit->Act->World->Prop):Exit->Act->World->Prop
 | .normal,a,w=>DM n K a/\J w
 | .exit i,a,w=>Q (.exit i) a w
 | .goto l,a,w=>Q (.goto l) a w
 | .ret,a,w=>Q .ret a w
 | .panic c,a,w=>Q (.panic c) a w
 | .outgrown,a,w=>Q .outgrown a w
section
variable {P:Program}{n:Nat}{E:List (Nat×Value)}{w:World}{Q:Exit->Act->World->Prop}{K:List (Nat×Value)}{J:World->Prop}{s:Prop}
instance [h:JJ (Ad n E w .ret Q) s]:JJ (Ad n E w .ret (Rnd n K J Q)) s:=⟨fun x=>h.go x⟩
instance {id:Nat} [h:JJ (Ad n E w (.exit id) Q) s]:JJ (Ad n E w (.exit id) (Rnd n K J Q)) s:=⟨fun x=>h.go x⟩
theorem Ad.rnd (e:Xy K E) (c:J w):Ad n E w .normal (Rnd n K J Q):=fun _ d=>⟨d.sub e,c⟩
theorem St.rng (r:Aw P T) {body:Code}{t r2:Nat}(c st N:Nat) (F:st<=N) (K:List (Nat×Value)) (I:Nat->World->Prop)
  (D:Xy ((c,.int .i64 st)::K) E) (b:I st w)
  (o:∀ i:Nat,(AZ T n oc.toArray 9 ((c,.int .i64 i)::K) oc).2=[]/\AR (AZ T n oc.toArray 9 ((c,.int .i64 i)::K) oc).1 t=some (.bool (decide ((i:Int)<(N:Int)))))
  (d:∀ v,Pz oc ((c,v)::K)=true)
  (u:∀ i:Nat,(AZ T n os.toArray 9 ((c,.int .i64 i)::K) os).2=[]/\AR (AZ T n os.toArray 9 ((c,.int .i64 i)::K) os).1 c=some (.int .i64 (IntKind.i64.wrap ((i:Int)+1))))
  (B:Pz os K=true) (x:K.all (fun p=>!(Nat.beq p.1 c))=true) (G:N<4611686018427387904)
  (round:∀ i w,i<N->I i w->St P n ((c,.int .i64 i)::K) w body (Exit.inBlock b1 (Rnd n ((c,.int .i64 i)::K) (I (i+1)) Q)))
  (done:∀ w,I N w->Ad n ((c,.int .i64 N)::K) w (.exit b0) Q) :
  St P n E w (.loop (.seq (.region r1 oc.toArray false) (.seq (.cond (.tmp t) .skip (.exit b0)) (.seq (.block b1 body) (.region r2 os.toArray false))))) Q:=by
 refine St.loop (fun i:Nat=>(c,.int .i64 i)::K) (fun i w=>(st<=i/\i<=N)/\I i w) (fun i=>N - i) st D ⟨⟨Ai _,F⟩,b⟩ ?_;rintro i w' ⟨⟨J,H⟩,q⟩;refine St.seq (St.region (Af.run (E':=(AZ T n oc.toArray 9 ((c,.int .i64 i)::K) oc).1) (l':=[]) r 9 (Iw rfl (o i).1) (Af.nil (Ad.ak (St.seq ?_)))));have keep:=GS (T:=T) (n:=n) (ops:=oc.toArray) (K:=(c,.int .i64 i)::K) 9 oc ((c,.int .i64 i)::K) (d _) (fun _ _ h=>h);by_cases C:i<N
 ·refine St.aD (o i).2 (by rw[decide_eq_true oo]) ?_;refine St.skip (Ad.ak (St.seq (St.block ?_)));intro a m;refine wp_mono (round i w' C q a (m.aU keep)) ?_;have z:∀ a2 w2,DM n ((c,.int .i64 i)::K) a2/\I (i+1) w2->Code.wp P (.region r2 os.toArray false) (Exit.then (WL n (fun i:Nat=>(c,Value.int .i64 i)::K) (fun i w=>(st<=i/\i<=N)/\I i w) (fun i=>N - i) i) Q) a2 w2:=by
   rintro a2 w2 ⟨A,f⟩;refine (St.region (Af.run (w:=w2) (E':=(AZ T n os.toArray 9 ((c,.int .i64 i)::K) os).1) (l':=[]) r 9 (Iw rfl (u i).1) (Af.nil ?_)):St P n _ w2 _ _) a2 A;refine fun a3 s=>⟨i+1,s.aU ?_,⟨⟨by show st<=i+1;omega,by show i+1<=N;omega⟩,f⟩,by dsimp only;omega⟩;intro k v d;by_cases e:c=k
   ·subst e;rw[AF]at d;cases d;rw[(u i).2,show IntKind.i64.wrap ((i:Int)+1)=((i+1:Nat):Int) from by rw[Ab oo oo];rfl]
   ·rw[Bc _ _ e]at d;refine GS (K:=K) 9 os _ B ?_ k v d;intro k' v' y;rw[Bc _ _ (Ne.symm (JL x y))];exact y
  intro e a2 w2 g;cases e with
  | normal=>exact z a2 w2 g
  | exit id =>
   have j:if id=b1 then _ else _:=g
   show if id=b1 then _ else _
   split
   ·rename_i e;rw[if_pos e]at j;exact z a2 w2 j
   ·rename_i e;rw[if_neg e]at j;exact j
  | goto l=>exact g
  | ret=>exact g
  | panic ch=>exact g
  | outgrown=>exact g
 ·have e:i=N:=by omega
  subst e;refine St.ay (o i).2 (by rw[decide_eq_false oo]) ?_;refine St.exit ?_;intro a m;exact done w' q a (m.aU keep)
theorem H6 {body:Code}{t r2:Nat}(c:Nat) (st:Nat) (N:Nat) (K:List (Nat×Value)) (I:Nat->World->Prop) (d:I st w) (round:∀ i w,i<N->I i w->St P n ((c,.int .i64 i)::K) w body (Exit.inBlock b1 (Rnd n ((c,.int .i64 i)::K) (I (i+1)) Q))) (done:∀ w,I N w->Ad n ((c,.int .i64 N)::K) w (.exit b0) Q) (g:Aw P T:=by exact A8) (r:st<=N:=by omega) (q:Xy ((c,.int .i64 st)::K) E:=by repeat first|exact True.intro|refine And.intro rfl ?_) (j:∀ i:Nat,(AZ T n oc.toArray 9 ((c,.int .i64 i)::K) oc).2=[]/\AR (AZ T n oc.toArray 9 ((c,.int .i64 i)::K) oc).1 t=some (.bool (decide ((i:Int)<(N:Int)))):=by exact (fun _=>⟨rfl,rfl⟩)) (m:∀ v,Pz oc ((c,v)::K)=true:=by exact (fun _=>rfl)) (l:∀ i:Nat,(AZ T n os.toArray 9 ((c,.int .i64 i)::K) os).2=[]/\AR (AZ T n os.toArray 9 ((c,.int .i64 i)::K) os).1 c=some (.int .i64 (IntKind.i64.wrap ((i:Int)+1))):=by exact (fun _=>⟨rfl,rfl⟩)) (o:Pz os K=true:=by exact rfl) (k:K.all (fun p=>!(Nat.beq p.1 c))=true:=by exact rfl) (e:N<4611686018427387904:=by omega):
  St P n E w (.loop (.seq (.region r1 oc.toArray false) (.seq (.cond (.tmp t) .skip (.exit b0)) (.seq (.block b1 body) (.region r2 os.toArray false))))) Q:=St.rng g c st N r K I q d j m l o k e round done
def A3i {α:Type}(n:Nat) (K:α->List (Nat×Value)) (J:α->World->Prop) (Q:Exit->Act->World->Prop):Exit->Act->World->Prop
 | .normal,a,w=>∃ g,DM n (K g) a/\J g w
 | .exit i,a,w=>Q (.exit i) a w
 | .goto l,a,w=>Q (.goto l) a w
 | .ret,a,w=>Q .ret a w
 | .panic c,a,w=>Q (.panic c) a w
 | .outgrown,a,w=>Q .outgrown a w
instance {α:Type} {K:α->List (Nat×Value)} {J:α->World->Prop} [h:JJ (Ad n E w .ret Q) s]:JJ (Ad n E w .ret (A3i n K J Q)) s:=⟨fun x=>h.go x⟩
instance {α:Type} {K:α->List (Nat×Value)} {J:α->World->Prop} {id:Nat} [h:JJ (Ad n E w (.exit id) Q) s]:JJ (Ad n E w (.exit id) (A3i n K J Q)) s:=⟨fun x=>h.go x⟩
theorem Ad.aO {K:α->List (Nat×Value)}{J:α->World->Prop}(g:α) (e:Xy (K g) E) (c:J g w):Ad n E w .normal (A3i n K J Q):=fun _ d=>⟨g,d.sub e,c⟩
theorem St.rngG (u:Aw P T) {body:Code}{t r2:Nat}(c st N:Nat) (L:st<=N) (K:α->List (Nat×Value)) (I:Nat->α->World->Prop) (g0:α)
  (H:Xy ((c,.int .i64 st)::K g0) E) (f:I st g0 w)
  (r:∀ (i:Nat) (g:α),(AZ T n oc.toArray 9 ((c,.int .i64 i)::K g) oc).2=[]/\AR (AZ T n oc.toArray 9 ((c,.int .i64 i)::K g) oc).1 t=some (.bool (decide ((i:Int)<(N:Int)))))
  (d:∀ v g,Pz oc ((c,v)::K g)=true)
  (y:∀ (i:Nat) (g:α),(AZ T n os.toArray 9 ((c,.int .i64 i)::K g) os).2=[]/\AR (AZ T n os.toArray 9 ((c,.int .i64 i)::K g) os).1 c=some (.int .i64 (IntKind.i64.wrap ((i:Int)+1))))
  (F:∀ g,Pz os (K g)=true) (B:∀ g,(K g).all (fun p=>!(Nat.beq p.1 c))=true) (M:N<4611686018427387904)
  (round:∀ i g w,i<N->I i g w->St P n ((c,.int .i64 i)::K g) w body (Exit.inBlock b1 (A3i n (fun g=>(c,.int .i64 i)::K g) (I (i+1)) Q)))
  (done:∀ g w,I N g w->Ad n ((c,.int .i64 N)::K g) w (.exit b0) Q) :
  St P n E w (.loop (.seq (.region r1 oc.toArray false) (.seq (.cond (.tmp t) .skip (.exit b0)) (.seq (.block b1 body) (.region r2 os.toArray false))))) Q:=by
 refine St.loop (fun s:Nat×α=>(c,.int .i64 s.1)::K s.2) (fun s w=>(st<=s.1/\s.1<=N)/\I s.1 s.2 w) (fun s=>N - s.1) (st,g0) H ⟨⟨Ai _,L⟩,f⟩ ?_;rintro⟨i,γ⟩ w' ⟨⟨J,D⟩,o⟩;dsimp only at J D o ⊢;refine St.seq (St.region (Af.run (E':=(AZ T n oc.toArray 9 ((c,.int .i64 i)::K γ) oc).1) (l':=[]) u 9 (Iw rfl (r i γ).1) (Af.nil (Ad.ak (St.seq ?_)))));have keep:=GS (T:=T) (n:=n) (ops:=oc.toArray) (K:=(c,.int .i64 i)::K γ) 9 oc ((c,.int .i64 i)::K γ) (d _ _) (fun _ _ h=>h);by_cases G:i<N
 ·refine St.aD (r i γ).2 (by rw[decide_eq_true oo]) ?_;refine St.skip (Ad.ak (St.seq (St.block ?_)));intro a q;refine wp_mono (round i γ w' G o a (q.aU keep)) ?_;have b:∀ a2 w2,(∃ g,DM n ((c,.int .i64 i)::K g) a2/\I (i+1) g w2)->Code.wp P (.region r2 os.toArray false) (Exit.then (WL n (fun s:Nat×α=>(c,Value.int .i64 s.1)::K s.2) (fun s w=>(st<=s.1/\s.1<=N)/\I s.1 s.2 w) (fun s=>N - s.1) (i,γ)) Q) a2 w2:=by
   rintro a2 w2 ⟨g,C,x⟩;refine (St.region (Af.run (w:=w2) (E':=(AZ T n os.toArray 9 ((c,.int .i64 i)::K g) os).1) (l':=[]) u 9 (Iw rfl (y i g).1) (Af.nil ?_)):St P n _ w2 _ _) a2 C;refine fun a3 A=>⟨(i+1,g),A.aU ?_,⟨⟨by show st<=i+1;omega,by show i+1<=N;omega⟩,x⟩,by dsimp only;omega⟩;intro k v d;by_cases e:c=k
   ·subst e;rw[AF]at d;cases d;rw[(y i g).2,show IntKind.i64.wrap ((i:Int)+1)=((i+1:Nat):Int) from by rw[Ab oo oo];rfl]
   ·rw[Bc _ _ e]at d;refine GS (K:=K g) 9 os _ (F g) ?_ k v d;intro k' v' z;rw[Bc _ _ (Ne.symm (JL (B g) z))];exact z
  intro e a2 w2 j;cases e with
  | normal=>exact b a2 w2 j
  | exit id =>
   have m:if id=b1 then _ else _:=j
   show if id=b1 then _ else _
   split
   ·rename_i e;rw[if_pos e]at m;exact b a2 w2 m
   ·rename_i e;rw[if_neg e]at m;exact m
  | goto l=>exact j
  | ret=>exact j
  | panic ch=>exact j
  | outgrown=>exact j
 ·have e:i=N:=by omega
  subst e;refine St.ay (r i γ).2 (by rw[decide_eq_false oo]) ?_;refine St.exit ?_;intro a q;exact done γ w' o a (q.aU keep)
theorem sG {body:Code}{t r2:Nat}(c:Nat) (st:Nat) (N:Nat) (K:α->List (Nat×Value)) (I:Nat->α->World->Prop) (g0:α) (d:I st g0 w) (round:∀ i g w,i<N->I i g w->St P n ((c,.int .i64 i)::K g) w body (Exit.inBlock b1 (A3i n (fun g=>(c,.int .i64 i)::K g) (I (i+1)) Q))) (done:∀ g w,I N g w->Ad n ((c,.int .i64 N)::K g) w (.exit b0) Q) (j:Aw P T:=by exact A8) (u:st<=N:=by omega) (r:Xy ((c,.int .i64 st)::K g0) E:=by repeat first|exact True.intro|refine And.intro rfl ?_) (k:∀ (i:Nat) (g:α),(AZ T n oc.toArray 9 ((c,.int .i64 i)::K g) oc).2=[]/\AR (AZ T n oc.toArray 9 ((c,.int .i64 i)::K g) oc).1 t=some (.bool (decide ((i:Int)<(N:Int)))):=by exact (fun _ _=>⟨rfl,rfl⟩)) (o:∀ v g,Pz oc ((c,v)::K g)=true:=by exact (fun _ _=>rfl)) (m:∀ (i:Nat) (g:α),(AZ T n os.toArray 9 ((c,.int .i64 i)::K g) os).2=[]/\AR (AZ T n os.toArray 9 ((c,.int .i64 i)::K g) os).1 c=some (.int .i64 (IntKind.i64.wrap ((i:Int)+1))):=by exact (fun _ _=>⟨rfl,rfl⟩)) (q:∀ g,Pz os (K g)=true:=by exact (fun _=>rfl)) (l:∀ g,(K g).all (fun p=>!(Nat.beq p.1 c))=true:=by exact (fun _=>rfl)) (e:N<4611686018427387904:=by omega):
  St P n E w (.loop (.seq (.region r1 oc.toArray false) (.seq (.cond (.tmp t) .skip (.exit b0)) (.seq (.block b1 body) (.region r2 os.toArray false))))) Q:=St.rngG j c st N u K I g0 r d k o m q l e round done
theorem St.ef (r:Aw P T) {body:Code}{t r2:Nat}(c st N:Nat) (F:st<=N) (K:List (Nat×Value)) (I:Nat->World->Prop)
  (D:Xy ((c,.int .i64 st)::K) E) (b:I st w)
  (o:∀ i:Nat,(AZ T n oc.toArray 9 ((c,.int .i64 i)::K) oc).2=[]/\AR (AZ T n oc.toArray 9 ((c,.int .i64 i)::K) oc).1 t=some (.bool (decide ((i:Int)<(N:Int)))))
  (d:∀ v,Pz oc ((c,v)::K)=true)
  (u:∀ i:Nat,(AZ T n os.toArray 9 ((c,.int .i64 i)::K) os).2=[]/\AR (AZ T n os.toArray 9 ((c,.int .i64 i)::K) os).1 c=some (.int .i64 (IntKind.i64.wrap ((i:Int)+1))))
  (B:Pz os K=true) (x:K.all (fun p=>!(Nat.beq p.1 c))=true) (G:N<4611686018427387904)
  (round:∀ i w,i<N->I i w->St P n ((c,.int .i64 i)::K) w body (Exit.inBlock b1 (Rnd n ((c,.int .i64 i)::K) (I (i+1)) Q)))
  (done:∀ w,I N w->Ad n ((c,.int .i64 N)::K) w (.exit b0) Q) :
  St P n E w (.loop (.seq (.seq (.region r1 oc.toArray false) (.cond (.tmp t) .skip (.exit b0))) (.seq (.block b1 body) (.region r2 os.toArray false)))) Q:=by
 refine St.loop (fun i:Nat=>(c,.int .i64 i)::K) (fun i w=>(st<=i/\i<=N)/\I i w) (fun i=>N - i) st D ⟨⟨Ai _,F⟩,b⟩ ?_;rintro i w' ⟨⟨J,H⟩,q⟩;refine St.seq (St.seq (St.region (Af.run (E':=(AZ T n oc.toArray 9 ((c,.int .i64 i)::K) oc).1) (l':=[]) r 9 (Iw rfl (o i).1) (Af.nil (Ad.ak ?_)))));have keep:=GS (T:=T) (n:=n) (ops:=oc.toArray) (K:=(c,.int .i64 i)::K) 9 oc ((c,.int .i64 i)::K) (d _) (fun _ _ h=>h);by_cases C:i<N
 ·refine St.aD (o i).2 (by rw[decide_eq_true oo]) ?_;refine St.skip (Ad.ak (St.seq (St.block ?_)));intro a m;refine wp_mono (round i w' C q a (m.aU keep)) ?_;have z:∀ a2 w2,DM n ((c,.int .i64 i)::K) a2/\I (i+1) w2->Code.wp P (.region r2 os.toArray false) (Exit.then (WL n (fun i:Nat=>(c,Value.int .i64 i)::K) (fun i w=>(st<=i/\i<=N)/\I i w) (fun i=>N - i) i) Q) a2 w2:=by
   rintro a2 w2 ⟨A,f⟩;refine (St.region (Af.run (w:=w2) (E':=(AZ T n os.toArray 9 ((c,.int .i64 i)::K) os).1) (l':=[]) r 9 (Iw rfl (u i).1) (Af.nil ?_)):St P n _ w2 _ _) a2 A;refine fun a3 s=>⟨i+1,s.aU ?_,⟨⟨by show st<=i+1;omega,by show i+1<=N;omega⟩,f⟩,by dsimp only;omega⟩;intro k v d;by_cases e:c=k
   ·subst e;rw[AF]at d;cases d;rw[(u i).2,show IntKind.i64.wrap ((i:Int)+1)=((i+1:Nat):Int) from by rw[Ab oo oo];rfl]
   ·rw[Bc _ _ e]at d;refine GS (K:=K) 9 os _ B ?_ k v d;intro k' v' y;rw[Bc _ _ (Ne.symm (JL x y))];exact y
  intro e a2 w2 g;cases e with
  | normal=>exact z a2 w2 g
  | exit id =>
   have j:if id=b1 then _ else _:=g
   show if id=b1 then _ else _
   split
   ·rename_i e;rw[if_pos e]at j;exact z a2 w2 j
   ·rename_i e;rw[if_neg e]at j;exact j
  | goto l=>exact g
  | ret=>exact g
  | panic ch=>exact g
  | outgrown=>exact g
 ·have e:i=N:=by omega
  subst e;refine St.ay (o i).2 (by rw[decide_eq_false oo]) ?_;refine St.exit ?_;intro a m;exact done w' q a (m.aU keep)
theorem St.dB (u:Aw P T) {body:Code}{t r2:Nat}(c st N:Nat) (L:st<=N) (K:α->List (Nat×Value)) (I:Nat->α->World->Prop) (g0:α)
  (H:Xy ((c,.int .i64 st)::K g0) E) (f:I st g0 w)
  (r:∀ (i:Nat) (g:α),(AZ T n oc.toArray 9 ((c,.int .i64 i)::K g) oc).2=[]/\AR (AZ T n oc.toArray 9 ((c,.int .i64 i)::K g) oc).1 t=some (.bool (decide ((i:Int)<(N:Int)))))
  (d:∀ v g,Pz oc ((c,v)::K g)=true)
  (y:∀ (i:Nat) (g:α),(AZ T n os.toArray 9 ((c,.int .i64 i)::K g) os).2=[]/\AR (AZ T n os.toArray 9 ((c,.int .i64 i)::K g) os).1 c=some (.int .i64 (IntKind.i64.wrap ((i:Int)+1))))
  (F:∀ g,Pz os (K g)=true) (B:∀ g,(K g).all (fun p=>!(Nat.beq p.1 c))=true) (M:N<4611686018427387904)
  (round:∀ i g w,i<N->I i g w->St P n ((c,.int .i64 i)::K g) w body (Exit.inBlock b1 (A3i n (fun g=>(c,.int .i64 i)::K g) (I (i+1)) Q)))
  (done:∀ g w,I N g w->Ad n ((c,.int .i64 N)::K g) w (.exit b0) Q) :
  St P n E w (.loop (.seq (.seq (.region r1 oc.toArray false) (.cond (.tmp t) .skip (.exit b0))) (.seq (.block b1 body) (.region r2 os.toArray false)))) Q:=by
 refine St.loop (fun s:Nat×α=>(c,.int .i64 s.1)::K s.2) (fun s w=>(st<=s.1/\s.1<=N)/\I s.1 s.2 w) (fun s=>N - s.1) (st,g0) H ⟨⟨Ai _,L⟩,f⟩ ?_;rintro⟨i,γ⟩ w' ⟨⟨J,D⟩,o⟩;dsimp only at J D o ⊢;refine St.seq (St.seq (St.region (Af.run (E':=(AZ T n oc.toArray 9 ((c,.int .i64 i)::K γ) oc).1) (l':=[]) u 9 (Iw rfl (r i γ).1) (Af.nil (Ad.ak ?_)))));have keep:=GS (T:=T) (n:=n) (ops:=oc.toArray) (K:=(c,.int .i64 i)::K γ) 9 oc ((c,.int .i64 i)::K γ) (d _ _) (fun _ _ h=>h);by_cases G:i<N
 ·refine St.aD (r i γ).2 (by rw[decide_eq_true oo]) ?_;refine St.skip (Ad.ak (St.seq (St.block ?_)));intro a q;refine wp_mono (round i γ w' G o a (q.aU keep)) ?_;have b:∀ a2 w2,(∃ g,DM n ((c,.int .i64 i)::K g) a2/\I (i+1) g w2)->Code.wp P (.region r2 os.toArray false) (Exit.then (WL n (fun s:Nat×α=>(c,Value.int .i64 s.1)::K s.2) (fun s w=>(st<=s.1/\s.1<=N)/\I s.1 s.2 w) (fun s=>N - s.1) (i,γ)) Q) a2 w2:=by
   rintro a2 w2 ⟨g,C,x⟩;refine (St.region (Af.run (w:=w2) (E':=(AZ T n os.toArray 9 ((c,.int .i64 i)::K g) os).1) (l':=[]) u 9 (Iw rfl (y i g).1) (Af.nil ?_)):St P n _ w2 _ _) a2 C;refine fun a3 A=>⟨(i+1,g),A.aU ?_,⟨⟨by show st<=i+1;omega,by show i+1<=N;omega⟩,x⟩,by dsimp only;omega⟩;intro k v d;by_cases e:c=k
   ·subst e;rw[AF]at d;cases d;rw[(y i g).2,show IntKind.i64.wrap ((i:Int)+1)=((i+1:Nat):Int) from by rw[Ab oo oo];rfl]
   ·rw[Bc _ _ e]at d;refine GS (K:=K g) 9 os _ (F g) ?_ k v d;intro k' v' z;rw[Bc _ _ (Ne.symm (JL (B g) z))];exact z
  intro e a2 w2 j;cases e with
  | normal=>exact b a2 w2 j
  | exit id =>
   have m:if id=b1 then _ else _:=j
   show if id=b1 then _ else _
   split
   ·rename_i e;rw[if_pos e]at m;exact b a2 w2 m
   ·rename_i e;rw[if_neg e]at m;exact m
  | goto l=>exact j
  | ret=>exact j
  | panic ch=>exact j
  | outgrown=>exact j
 ·have e:i=N:=by omega
  subst e;refine St.ay (r i γ).2 (by rw[decide_eq_false oo]) ?_;refine St.exit ?_;intro a q;exact done γ w' o a (q.aU keep)
end
variable {w':World}{b2:Nat}{e:TypeId}{C:List Value}
def tab (c:Nat) (g:Nat->Int):List Int:=(List.range c).map g
theorem D9 (c:Nat) (g:Nat->Int):(tab c g).length=c:=by simp[tab]
theorem Mc {g:Nat->Int}(h:j<c):(tab c g)[j]?=some (g j):=by simp[tab,h]
theorem Oi {f g:Nat->Int}(h:∀ j,j<c->f j=g j):tab c f=tab c g:=by unfold tab;exact NY fun j d=>h j (CZ.1 d)
def Nk (w:World) (b o c:Nat) (g:Nat->Int):Prop:=∃ e C,Aj e w b C/\∀ j,j<c->∃ u,Dn w u (g j)/\(C.drop (o+2 * j)).take 2=u.cells.toList/\o+2 * j+2<=C.length
def MP (w:World) (a:Addr) (r c:Nat) (f:Nat->Nat->Int):Prop:=∀ i,i<r->∃ b o cp,w.cell? (a.add i)=some (.slice (some ⟨b,o,none⟩) c cp)/\Nk w b o c (f i)
theorem Nk.ext {w:World}{o:Nat}{g:Nat->Int}(h:Nk w b o c g) (d:Ac w w'):Nk w' b o c g:=by obtain⟨e,C,m,r⟩:=h;refine⟨e,C,m.ext d,fun j v=>?_⟩;obtain⟨u,q,k,l⟩:=r j v;exact⟨u,q.ext d,k,l⟩
theorem MP.ext {w:World}{a:Addr}{r:Nat}(h:MP w a r c f) (d:Ac w w'):MP w' a r c f:=by intro i g;obtain⟨b,o,cp,e,j⟩:=h i g;exact⟨b,o,cp,d.cell e,j.ext d⟩
theorem Aj.same {e':TypeId}{w:World}{C':List Value}(h:Aj e w b C) (k:Aj e' w b C'):C=C':=by have:=h.symm.trans k;simp only[AP,Obj.cells.injEq]at this;have c:=this.1;simpa using c
theorem LI.rp {w:World}{v:Value}{g:Nat->Int}(h:LI w v (tab c g)) (a:1<=c):∃ b o cp,v=.slice (some ⟨b,o,none⟩) c cp/\Nk w b o c g:=by obtain⟨b,o,cap,u,e,C,hv,f,k,z,t⟩:=h.get (i:=0) (Mc oo);rw[D9]at hv;refine⟨b,o,cap,hv,e,C,k,fun j y=>?_⟩;obtain⟨b',o',cap',u',e',C',d,r,q,l,m⟩:=h.get (i:=j) (Mc y);rw[hv]at d;simp only[Ci,AP,FF,and_true]at d;obtain⟨⟨rfl,rfl⟩,_,_⟩:=d;obtain rfl:=k.same q;exact⟨u',r,l,m⟩
theorem MI.mp {w:World}{v:Value}{r:Nat}(h:MI w v (mk r c f)) (t:1<=r) (m:1<=c):∃ a cap,v=.slice (some a) r cap/\MP w a r c f:=by
 obtain⟨rs,e,g,l⟩:=h;rw[AU]at g;have k:rs[0]?=some (rs[0]'oo):=by simp
 obtain⟨a,cap,hv,_⟩:=e.get k;refine⟨a,cap,by rw[hv,g],fun i u=>?_⟩;have j:rs[i]?=some (rs[i]'oo):=by simp
 obtain⟨a',cap',d,q⟩:=e.get j;rw[hv]at d;simp only[Ci,AP]at d;obtain⟨rfl,_,_⟩:=d;obtain⟨b,o,cp,z,y⟩:=(l i _ _ j (BK u)).rp m;exact⟨b,o,cp,by rw[q,z],y⟩
def Ay:Nat->(Nat->Int)->Int
 | 0,_=>0
 | n+1,g=>Ay n g+g n
theorem Gp {s:Nat}{g:Nat->Int}:∀ (n:Nat),(∀ i,i<n->sz (g i)<=s)->sz (Ay n g)<=s+n:=by
 intro n;induction n with
 | zero=>intro _;show sz 0<=_;rw[Ud];omega
 | succ n ih =>
  intro h;have c:=ih (fun i e=>h i oo);have d:=h n oo;have:=Pt (Ay n g) (g n);show sz (Ay n g+g n)<=_;omega
theorem ZE {w:World}{o1 p1 o2 p2 l2:Nat}{f g:Nat->Int}(h:Nk w b1 o1 c f) (k:Nk w b2 o2 c g) (U:c<=l2) (S:c<=1000) {s:Nat}(n:∀ i,i<c->sz (f i * g i)<=s) (Y:s<=900000) :
  Calls prog 178 #[.slice (some ⟨b1,o1,none⟩) c p1,.slice (some ⟨b2,o2,none⟩) l2 p2] w (AJ fun r w'=>Ac w w'/\Ao 0 w' r (Ay c (fun i=>f i * g i))):=by
 refine cS func178 ntmps178 ?_;refine Nv ?_;refine .s (oA) ?_;rintro _ w1 ⟨rfl,B4,J,Z⟩;refine Nv ?_;refine .p (rB) ?_;refine .s (oA) ?_;rintro _ w2 ⟨rfl,B5,A,ha⟩;have V:=B4.lt;refine Af.aK (base:=0) (v:=zI) (a:=0) rfl rfl B5 rfl (DS 0 _) (J.trans A) oo ?_;intro w3 d x _ B;replace B4:=(B4.ext A).upd x oo;refine A7 ?_;refine H6 (10) (0) (c) [(0,.slice (some ⟨b1,o1,none⟩) c p1),(1,.slice (some ⟨b2,o2,none⟩) l2 p2),(4,.pointer (some ⟨w.heap.size,0,none⟩)),(5,.pointer (some ⟨w1.heap.size,0,none⟩)),(9,.int .i64 c)] (fun i w'=>Ac w w'/\Aj 37 w' w.heap.size [.bool false,.slice none 0 0]/\∃ v,Aj 37 w' w1.heap.size v.cells.toList/\Ao 0 w' v (Ay i (fun i=>f i * g i))) ?_ ?_ ?_
 ·exact⟨B,B4,zI,d,DS 0 _⟩
 ·clear B B4 d x B5;rintro i P b ⟨e,B4,v,d,hv⟩;obtain⟨e1,C1,D,G⟩:=h.ext e;obtain⟨u1,u,a1,a2⟩:=G i b;obtain⟨e2,R,E,H⟩:=k.ext e;obtain⟨u2,t,c1,c2⟩:=H i oo;have X:=Gp (s:=s) i (fun j T=>n j oo) (g:=fun i=>f i * g i);have W:=n i b;refine A7 ?_;refine St.sub (E':=[(10,.int .i64 i),(6,.int .i64 i),(0,.slice (some ⟨b1,o1,none⟩) c p1),(1,.slice (some ⟨b2,o2,none⟩) l2 p2),(4,.pointer (some ⟨w.heap.size,0,none⟩)),(5,.pointer (some ⟨w1.heap.size,0,none⟩)),(9,.int .i64 c)]) ?_ AL;refine sF 10 ?_;refine .on (fun _ m=>A0.cD rfl (m.blk d sm) hv) ?_;refine .q ?_;refine .on (fun _ _=>A0.aQ rfl rfl rfl oo) ?_;refine .on (fun _ m=>A0.aH rfl (m.blk D sm) a1 a2 u.r2) ?_;refine .q ?_;refine .on (fun _ _=>A0.aQ rfl rfl rfl oo) ?_;refine .on (fun _ m=>A0.aH rfl (m.blk E sm) c1 c2 t.r2) ?_;refine FL.au BP rfl rfl rfl (fun Q l=>cM (Dy (base:=0) (u.ext l) (t.ext l) BI)) (Am.aF 0 _) ?_;refine FL.aG rfl ?_;intro Q l y M _ _;replace B4:=B4.ext l;replace d:=d.ext l;replace hv:=hv.ext l;replace e:=e.trans l;clear l;refine .s (Av.call FJ rfl (Kw (base:=0) (hv.dn oo) (M.dn oo) BI)) ?_;rintro z w6 ⟨o,N⟩;replace B4:=B4.ext o;replace d:=d.ext o;replace e:=e.trans o;clear o;refine Af.aK rfl rfl d hv.two.1 N e oo ?_;intro w7 C I O K;refine Nv ?_;exact Ad.rnd AL ⟨K,B4.upd I oo,z,C,O⟩
 ·rintro P ⟨e,B4,v,d,hv⟩;refine A7 ?_;refine .p (rC d hv) ?_;refine Af.aJ rfl rfl B4 rfl hv e AO ?_;intro w' L F fin;refine Nv ?_;exact fin _ _ rfl ⟨L,F⟩
theorem K5 {w:World}{v:Value}{r:Nat}(h:MI w v (mk r c f)) (m:1<=r/\r<=16) (j:1<=c/\c<=16) :
  Calls prog 155 #[v] w (AJ fun x w'=>Ac w w'/\x=.tuple #[.int .i64 r,.int .i64 c,.bool true]):=by
 obtain⟨a,cap,rfl,d⟩:=h.mp m.1 j.1;obtain⟨b0,o0,y,e,_⟩:=d 0 oo;refine cS func155 ntmps155 ?_;refine Nv ?_;refine .r rfl ?_;refine Nv ?_;refine .a 3 (.bool false) rfl (A9 oo) ?_;refine .a 4 (.bool false) rfl (A9 oo) ?_;refine A7 ?_;refine .cf ?_;refine H6 (17) (0) (r) [(0,.slice (some a) r cap),(15,.slice (some a) r cap),(16,.int .i64 r)] (fun i w'=>w'=w) ?_ ?_ ?_
 ·rfl
 ·rintro i w' l rfl;obtain⟨b,o,cp,k,_⟩:=d i l;refine A7 ?_;refine .p (A0.ia) ?_;refine .p (rL k) ?_;refine .r rfl ?_;refine Nv ?_;refine .a 3 (.bool false) rfl (A9 oo) ?_;refine .a 4 (.bool false) rfl (A9 oo) ?_;refine .r rfl ?_;refine .p (A0.ia) ?_;refine .p (rL e) ?_;refine .a 2 (.bool false) rfl (RL rfl) ?_;refine A7 ?_;refine .cf ?_;exact Ad.rnd AL rfl
 ·rintro w' rfl;refine Nv ?_;refine St.sub (E':=[(0,.slice (some a) r cap)]) ?_ AL;refine sF 7 ?_;refine .q ?_;refine .on (fun _ _=>A0.ia) ?_;refine .on (fun _ g=>rL (g.aq.cell e)) ?_;refine .q ?_;refine FL.aG rfl ?_;intro z u _ _;refine .r rfl ?_;refine Nv ?_;exact Ad.aC A8 [_,_,_] rfl ⟨rfl,rfl,rfl,trivial⟩ ⟨u,rfl⟩
theorem SD {w:World}{v:Value}{r:Nat}(h:MI w v (mk r c f)) (j:1<=r/\r<=16) (g:1<=c/\c<=16) :
  Calls prog 143 #[v] w (AJ fun x w'=>Ac w w'/\x=(if r=c then .tuple #[.int .i64 r,.bool true] else .tuple #[.int .i64 0,.bool false])):=by
 refine cS func143 ntmps143 ?_;refine A7 ?_;refine .s (oK Hx (K5 h j g)) ?_;rintro _ w1 ⟨d,rfl⟩;refine .r rfl ?_;refine Nv ?_;by_cases e:r=c
 ·subst e;refine .a 6 (.bool false) rfl (RL rfl) ?_;refine A7 ?_;refine .cf ?_;rw[if_pos rfl];exact Ad.aC A8 [_,_] rfl ⟨rfl,rfl,trivial⟩ ⟨d,rfl⟩
 ·refine .a 6 (.bool true) rfl (ZD e) ?_;refine A7 ?_;refine .ct ?_;rw[if_neg e];exact Ad.aC A8 [_,_] rfl ⟨rfl,rfl,trivial⟩ ⟨d,rfl⟩
theorem Y0 (w:World) (v:Value) (M:List (List Int)) (h:Ft w v M) (j:base<=w.heap.size) (e:∀ row ∈ M,∀ x ∈ row,-9223372036854775808<=x/\x<=9223372036854775807) :
  Calls prog 60 #[v] w (AJ fun r w'=>Ac w w'/\((okM M/\∃ rs,BH rs base w' r M)\/(¬ okM M/\r=.slice none 0 0))):=by
 refine cS func60 ntmps60 ?_;refine A7 ?_;refine .s (oK Mu (OZ w v M h j e)) ?_;rintro _ w1 ⟨d,⟨c,u,rs,rfl,g⟩ | ⟨c,rfl⟩⟩
 ·refine A7 ?_;exact uR ⟨d,.inl ⟨c,rs,g⟩⟩
 ·refine A7 ?_;exact Ad.ax rfl rfl ⟨d,.inr ⟨c,rfl⟩⟩
def Ti (a b:Nat):Int:=if a=b then 1 else 0
theorem P2 (w:World) (m:Nat) (K:1<=m/\m<=16) (C:base<=w.heap.size) :
  Calls prog 100 #[.int .i64 m] w (AJ fun x w'=>Ac w w'/\∃ u rs,x=.tuple #[u,.bool true]/\BH rs base w' u (mk m m Ti)):=by
 refine cS func100 ntmps100 ?_;refine Nv ?_;refine .r rfl ?_;refine Nv ?_;refine .a 2 (.bool false) rfl (A9 oo) ?_;refine .a 3 (.bool false) rfl (A9 oo) ?_;refine A7 ?_;refine .cf ?_;refine .s (oK IQ (L9 (base:=w.heap.size) w m m oo oo AO)) ?_;rintro u w1 ⟨F,ro,t⟩;have c:=t.cP;obtain⟨f,d,rfl⟩:=c.len;rw[AU]at c ⊢;refine A7 ?_;refine H6 (17) (0) (m) [(4,.slice f m d),(16,.int .i64 m)] (fun i w'=>Ac w w'/\BH ro w.heap.size w' (.slice f m d) (mk m m (fun a b=>if a=b/\a<i then 1 else 0))) ?_ ?_ ?_
 ·rw[BV (g:=fun _ _=>0) (fun a b _ _=>by simp)];exact⟨F,c⟩
 ·clear c t;rintro i w2 k ⟨l,c⟩;have E:=c.rsl;rw[AU]at E;obtain⟨n,z⟩:∃ n,ro[i]?=some n:=⟨ro[i]'oo,by simp⟩;obtain⟨a3,I,e3,D⟩:=c.rows.get z;simp only[Ci]at e3;obtain⟨rfl,J,rfl⟩:=e3;refine A7 ?_;refine St.sub (E':=[(17,.int .i64 i),(5,.int .i64 i),(4,.slice (some a3) m d),(16,.int .i64 m)]) ?_ AL;refine sF 6 ?_;refine .q ?_;refine .on (fun _ _=>A0.ia) ?_;refine .on (fun _ A=>rL (A.aq.cell D)) ?_;refine .q ?_;refine FL.au AW rfl rfl rfl (fun p o=>cM (Ba (base:=0) p 1 oo oo BI)) (Am.aF 0 _) ?_;refine FL.aG rfl ?_;intro p o y H _ _;refine Af.dL (w0:=w) (c.ext o) z (BK k) (j:=i) (by simp;omega) H (l.trans o) AO rfl rfl rfl (fun _=>rfl) rfl rfl (fun _=>rfl) ?_;intro L M G v;rw[K4 k k]at v;refine Nv ?_;refine Ad.rnd AL ⟨G,?_⟩;rw[BV (g:=Eg (fun a b=>if a=b/\a<i then 1 else 0) i i 1)]
  ·exact v
  ·intro a b _ _;unfold Eg;by_cases e:a=i/\b=i
   ·obtain⟨rfl,rfl⟩:=e;rw[if_pos ⟨rfl,by omega⟩,if_pos ⟨rfl,rfl⟩]
   ·rw[if_neg e];dsimp only;by_cases e2:a=b/\a<i
    ·rw[if_pos e2,if_pos ⟨e2.1,by omega⟩]
    ·rw[if_neg e2,if_neg oo]
 ·rintro w2 ⟨l,c⟩;rw[BV (g:=Ti) (fun a b B _=>by
                        unfold Ti;by_cases e:a=b;· rw[if_pos ⟨e,B⟩,if_pos e]
                        ·rw[if_neg (fun h=>e h.1),if_neg e])]at c
  refine A7 ?_;exact Ad.aC A8 [_,_] rfl ⟨rfl,rfl,trivial⟩ ⟨l,_,ro,rfl,c.mono C⟩
variable {m s1 s2 cap:Nat}{u:Value}
def JM (G:Nat->Nat->Int) (i j:Nat):Nat->Nat->Int:=fun a b=>if a<i\/a=i/\b<j then G a b else 0
theorem A4O (r c:Nat) (G:Nat->Nat->Int):mk r c (fun _ _=>0)=mk r c (JM G 0 0):=BV fun a b _ _=>by unfold JM;rw[if_neg oo]
theorem A4P (r c:Nat) (G:Nat->Nat->Int) (i j:Nat):mk r c (Eg (JM G i j) i j (G i j))=mk r c (JM G i (j+1)):=BV fun a b _ _=>by
 unfold Eg JM;by_cases e:a=i/\b=j
 ·obtain⟨rfl,rfl⟩:=e;rw[if_pos ⟨rfl,rfl⟩,if_pos oo]
 ·rw[if_neg e];by_cases f:a<i\/a=i/\b<j
  ·rw[if_pos f,if_pos oo]
  ·rw[if_neg f,if_neg oo]
theorem A4Q (r c:Nat) (G:Nat->Nat->Int) (i:Nat):mk r c (JM G i c)=mk r c (JM G (i+1) 0):=BV fun a b _ _=>by
 unfold JM;by_cases f:a<i+1
 ·rw[if_pos oo,if_pos oo]
 ·rw[if_neg oo,if_neg oo]
theorem A4R (r c:Nat) (G:Nat->Nat->Int):mk r c (JM G r 0)=mk r c G:=BV fun a b _ _=>by unfold JM;rw[if_pos oo]
def Tj (G:Nat->Nat->Int) (i j:Nat):Nat->Nat->Int:=fun a b=>JM (fun x y=>G y x) i j b a
theorem A3j (r c:Nat) (G:Nat->Nat->Int):mk r c (fun _ _=>0)=mk r c (Tj G 0 0):=BV fun a b _ _=>by unfold Tj JM;rw[if_neg oo]
theorem A3k (r c:Nat) (G:Nat->Nat->Int) (i j:Nat):mk r c (Eg (Tj G i j) j i (G j i))=mk r c (Tj G i (j+1)):=BV fun a b _ _=>by
 unfold Eg Tj JM;by_cases e:a=j/\b=i
 ·obtain⟨rfl,rfl⟩:=e;rw[if_pos ⟨rfl,rfl⟩,if_pos oo]
 ·rw[if_neg e];by_cases f:b<i\/b=i/\a<j
  ·rw[if_pos f,if_pos oo]
  ·rw[if_neg f,if_neg oo]
theorem A3l (r c:Nat) (G:Nat->Nat->Int) (i:Nat):mk r c (Tj G i r)=mk r c (Tj G (i+1) 0):=BV fun a b _ _=>by
 unfold Tj JM;by_cases f:b<i+1
 ·rw[if_pos oo,if_pos oo]
 ·rw[if_neg oo,if_neg oo]
theorem A3m (r c:Nat) (G:Nat->Nat->Int):mk r c (Tj G c 0)=mk r c G:=BV fun a b _ _=>by unfold Tj JM;rw[if_pos oo]
theorem BH.rowAt {r:Nat}{w:World}{p:Option Addr}(h:BH rs base w (.slice p r cap) (mk r c f)) (k:i<r):∃ a rr,p=some a/\rs[i]?=some rr/\w.cell? (a.add i)=some rr:=by
 have j:=h.rsl;rw[AU]at j;have d:rs[i]?=some (rs[i]'oo):=by simp
 obtain⟨a,cp,e,g⟩:=h.rows.get d;simp only[Ci]at e;exact⟨a,_,e.1,d,g⟩
theorem BH.lenM {r:Nat}{w:World}{v:Value}(h:BH rs base w v (mk r c f)):∃ p cap,v=.slice p r cap:=by obtain⟨p,cap,hv⟩:=h.len;rw[AU]at hv;exact⟨p,cap,hv⟩
theorem Nl {w:World}{v:Value}{r:Nat}(h:MI w v (mk r c f)) (J:1<=r/\r<=16) (H:1<=c/\c<=16) (O:base<=w.heap.size) :
  Calls prog 156 #[v] w (AJ fun x w'=>Ac w w'/\∃ u rs,x=.tuple #[u,.bool true]/\BH rs base w' u (mk c r (fun a b=>f b a))):=by
 have N:=h;obtain⟨a,cap,rfl,G⟩:=h.mp J.1 H.1;refine cS func156 ntmps156 ?_;refine A7 ?_;refine .s (oK Hx (K5 N J H)) ?_;rintro _ w1 ⟨K,rfl⟩;refine A7 ?_;refine .cf ?_;refine .s (oK IQ (L9 (base:=w.heap.size) w1 c r oo oo K.size)) ?_;rintro u w2 ⟨S,ro,B⟩;have d:=B.cP;obtain⟨D,g,rfl⟩:=d.lenM;refine A7 ?_;refine H6 (23) (0) (r) [(0,.slice (some a) r cap),(7,.slice D c g),(22,.int .i64 r)] (fun i w'=>Ac w w'/\BH ro w.heap.size w' (.slice D c g) (mk c r (Tj (fun a b=>f b a) i 0))) ?_ ?_ ?_
 ·rw[<- A3j];exact⟨K.trans S,d⟩
 ·clear d B;rintro i w3 E ⟨t,d⟩;obtain⟨b,o,cp,l,_⟩:=(G.ext t) i E;refine A7 ?_;refine .p (A0.ia) ?_;refine .p (rL l) ?_;refine A7 ?_;refine H6 (31) (0) (c) [(0,.slice (some a) r cap),(7,.slice D c g),(22,.int .i64 r),(23,.int .i64 i),(8,.int .i64 i),(30,.int .i64 c)] (fun j w'=>Ac w w'/\BH ro w.heap.size w' (.slice D c g) (mk c r (Tj (fun a b=>f b a) i j))) ?_ ?_ ?_
  ·exact⟨t,d⟩
  ·clear d l;rintro j U m ⟨n,d⟩;obtain⟨b,o,cp,l,e,C,hB,Q⟩:=(G.ext n) i E;obtain⟨y,I,L,M⟩:=Q j m;obtain⟨a3,X,rfl,R,P⟩:=d.rowAt m;refine A7 ?_;refine St.sub (E':=[(31,.int .i64 j),(9,.int .i64 j),(0,.slice (some a) r cap),(7,.slice (some a3) c g),(22,.int .i64 r),(23,.int .i64 i),(8,.int .i64 i),(30,.int .i64 c)]) ?_ AL;refine sF 13 ?_;refine .q ?_;refine .on (fun _ _=>A0.ia) ?_;refine .on (fun _ k=>rL (k.aq.cell P)) ?_;refine .q ?_;refine .on (fun _ _=>A0.ia) ?_;refine .on (fun _ k=>rL (k.aq.cell l)) ?_;refine .q ?_;refine .on (fun _ _=>rJ oo) ?_;refine .on (fun _ k=>A0.aH rfl (k.blk hB sm) L M I.r2) ?_;refine FL.au EF rfl rfl rfl (fun V A=>cM (Gk (base:=0) (I.ext A) BI)) (Am.aF 0 _) ?_;refine FL.aG rfl ?_;intro V A z B _ _;refine Af.dL (w0:=w) (d.ext A) R (BK m) (j:=i) (by simp;omega) B (n.trans A) AO rfl rfl rfl (fun _=>rfl) rfl rfl (fun _=>rfl) ?_;intro W Y T F;rw[K4 m E,A3k c r (fun a b=>f b a)]at F;refine Nv ?_;exact Ad.rnd AL ⟨T,F⟩
  ·rintro U ⟨n,d⟩;rw[A3l]at d;refine Nv ?_;exact Ad.rnd AL ⟨n,d⟩
 ·rintro w3 ⟨t,d⟩;rw[A3m]at d;refine A7 ?_;exact Ad.aC A8 [_,_] rfl ⟨rfl,rfl,trivial⟩ ⟨t,_,ro,rfl,d.mono O⟩
def EJ (m:Nat) (f g:Nat->Nat->Int):Nat->Nat->Int:=fun a b=>Ay m (fun k=>f a k * g k b)
theorem A3n {w:World}{v:Value}{r:Nat}{g:Nat->Nat->Int}(h:MI w u (mk r m f)) (k:MI w v (mk m c g)) (L:1<=r/\r<=16) (B:1<=m/\m<=16) (H:1<=c/\c<=16) (hd:∀ a b,a<r->b<m->sz (f a b)<=s1) (M:∀ a b,a<m->b<c->sz (g a b)<=s2) (hs:s1+s2<=900000) (W:base<=w.heap.size) :
  Calls prog 157 #[u,v] w (AJ fun x w'=>Ac w w'/\∃ y rs,x=.tuple #[y,.bool true]/\BH rs base w' y (mk r c (EJ m f g))):=by
 have Q:=h;have kM:=k;obtain⟨a,cap,rfl,G⟩:=h.mp L.1 B.1;obtain⟨b,cb,rfl,_⟩:=k.mp B.1 H.1;refine cS func157 ntmps157 ?_;refine A7 ?_;refine .s (oK Hx (K5 Q L B)) ?_;rintro _ w1 ⟨N,rfl⟩;refine A7 ?_;refine .s (oK KX (Nl (base:=0) (kM.ext N) B H BI)) ?_;rintro _ w2 ⟨he,t,rt,rfl,U⟩;have V:MI w2 t (mk c m (fun a b=>g b a)):=U.mi (by
  intro row ha x C;obtain⟨i,e⟩:=Cx.1 ha;have J:i<c:=by have:=(Au.1 e).1;rw[AU]at this;exact this
  rw[BK J]at e;cases e;obtain⟨j,o⟩:=Cx.1 C;have K:j<m:=by have:=(Au.1 o).1;simpa using this
  rw[Fu K]at o;cases o;have:=M j i K J;omega)
 obtain⟨q,cq,rfl,R⟩:=V.mp H.1 B.1;refine A7 ?_;refine St.ay rfl sm ?_;refine A7 ?_;refine .s (oK IQ (L9 (base:=w2.heap.size) w2 r c oo oo AO)) ?_;rintro y w3 ⟨hf,ro,D⟩;have d:=D.cP;obtain⟨E,p,rfl⟩:=d.lenM;have I:=N.trans he;replace G:=G.ext I;refine A7 ?_;refine H6 (44) (0) (r) [(0,.slice (some a) r cap),(9,.slice (some q) c cq),(11,.slice E r p),(43,.int .i64 r)] (fun i w'=>Ac w2 w'/\BH ro w2.heap.size w' (.slice E r p) (mk r c (JM (EJ m f g) i 0))) ?_ ?_ ?_
 ·rw[<- A4O];exact⟨hf,d⟩
 ·clear d D;rintro i O e ⟨l,d⟩;refine A7 ?_;refine H6 (49) (0) (c) [(0,.slice (some a) r cap),(9,.slice (some q) c cq),(11,.slice E r p),(43,.int .i64 r),(44,.int .i64 i),(12,.int .i64 i),(48,.int .i64 c)] (fun j w'=>Ac w2 w'/\BH ro w2.heap.size w' (.slice E r p) (mk r c (JM (EJ m f g) i j))) ?_ ?_ ?_
  ·exact⟨l,d⟩
  ·clear d l;rintro j O o ⟨l,d⟩;obtain⟨b1,o1,hh,Y,S⟩:=(G.ext l) i e;obtain⟨b2,o2,hk,Z,T⟩:=(R.ext l) j o;obtain⟨a3,rr,rfl,hb,X⟩:=d.rowAt e;refine A7 ?_;refine St.sub (E':=[(49,.int .i64 j),(13,.int .i64 j),(0,.slice (some a) r cap),(9,.slice (some q) c cq),(11,.slice (some a3) r p),(43,.int .i64 r),(44,.int .i64 i),(12,.int .i64 i),(48,.int .i64 c)]) ?_ AL;refine sF 14 ?_;refine .q ?_;refine .on (fun _ _=>A0.ia) ?_;refine .on (fun _ A=>rL (A.aq.cell X)) ?_;refine .q ?_;refine .on (fun _ _=>A0.ia) ?_;refine .on (fun _ A=>rL (A.aq.cell Y)) ?_;refine .q ?_;refine .on (fun _ _=>A0.ia) ?_;refine .on (fun _ A=>rL (A.aq.cell Z)) ?_;refine FL.au I6 rfl rfl rfl (fun P n=>cM (ZE (S.ext n) (T.ext n) AO oo (s:=s1+s2) (fun x C=>by show sz (f i x * g x j)<=_;have:=Bt (f i x) (g x j);have:=hd i x e C;have:=M x j C o;omega) hs)) (Am.aF 0 _) ?_;refine FL.aG rfl ?_;intro P n z D _ _;refine Af.dL (w0:=w2) (d.ext n) hb (BK e) (j:=j) (by simp;omega) D (l.trans n) AO rfl rfl rfl (fun _=>rfl) rfl rfl (fun _=>rfl) ?_;intro p6 w6 hg F;change BH ro w2.heap.size w6 _ (List.set _ i (List.set _ j (EJ m f g i j))) at F;rw[K4 e o,A4P r c (EJ m f g)]at F;refine Nv ?_;refine Ad.rnd AL ⟨hg,F⟩
  ·rintro P ⟨n,d⟩;rw[A4Q]at d;refine Nv ?_;exact Ad.rnd AL ⟨n,d⟩
 ·rintro O ⟨l,d⟩;rw[A4R]at d;refine A7 ?_;exact Ad.aC A8 [_,_] rfl ⟨rfl,rfl,trivial⟩ ⟨I.trans l,_,ro,rfl,d.mono (Ar W I.size)⟩
theorem KH {w:World}{v:Value}{r:Nat}{g:Nat->Nat->Int}(h:MI w u (mk r m f)) (k:MI w v (mk m c g)) (o:1<=r/\r<=16) (l:1<=m/\m<=16) (j:1<=c/\c<=16) (z:∀ a b,a<r->b<m->sz (f a b)<=s1) (t:∀ a b,a<m->b<c->sz (g a b)<=s2) (q:s1+s2<=900000) (e:base<=w.heap.size) :
  Calls prog 104 #[u,v] w (AJ fun x w'=>Ac w w'/\∃ rs,BH rs base w' x (mk r c (EJ m f g))):=by refine cS func104 ntmps104 ?_;refine A7 ?_;refine .s (oK A0G (A3n h k o l j z t q e)) ?_;rintro _ w1 ⟨i,y,rs,rfl,d⟩;refine A7 ?_;exact uR ⟨i,rs,d⟩
theorem A6F {r:Nat}{g:Nat->Nat->Int}(k:∀ a b,a<r->b<m->sz (f a b)<=s1) (l:∀ a b,a<m->b<c->sz (g a b)<=s2):∀ a b,a<r->b<c->sz (EJ m f g a b)<=s1+s2+m:=by intro a b e j;refine Gp (s:=s1+s2) m fun i d=>?_;have:=Bt (f a i) (g i b);have:=k a i e d;have:=l i b d j;omega
theorem szM {r:Nat}{s:Nat}(h:∀ a b,a<r->b<c->sz (f a b)<=s):∀ row ∈ mk r c f,∀ x ∈ row,sz x<=s:=by
 intro row l x m;obtain⟨i,d⟩:=Cx.1 l;have g:i<r:=by have:=(Au.1 d).1;rw[AU]at this;exact this
 rw[BK g]at d;cases d;obtain⟨j,e⟩:=Cx.1 m;have k:j<c:=by have:=(Au.1 e).1;simpa using this
 rw[Fu k]at e;cases e;exact h i j g k
theorem BH.miS {r:Nat}{w:World}{v:Value}{s:Nat}(h:BH rs base w v (mk r c f)) (g:∀ a b,a<r->b<c->sz (f a b)<=s) (d:s<=1000000):MI w v (mk r c f) :=
 h.mi fun row e x j=>Ar (szM g row e x j) d
theorem V9 {w:World}{v:Value}{g:Nat->Nat->Int}(h:MI w u (mk n n f)) (k:MI w v (mk n n g)) (c:1<=n/\n<=16) (l:∀ a b,a<n->b<n->sz (f a b)<=s1) (m:∀ a b,a<n->b<n->sz (g a b)<=s2) (H:s1+2 * s2<=800000) (E:base<=w.heap.size) :
  Calls prog 103 #[u,v] w (AJ fun x w'=>Ac w w'/\∃ rs,BH rs base w' x (mk n n (EJ n (EJ n (fun a b=>g b a) f) g))):=by have e:∀ a b,a<n->b<n->sz ((fun a b=>g b a) a b)<=s2:=fun a b C D=>m b a D C;refine cS func103 ntmps103 ?_;refine A7 ?_;refine .s (oK KX (Nl (base:=0) k c c BI)) ?_;rintro _ w1 ⟨d,t,rt,rfl,q⟩;have i:=q.miS e oo;refine A7 ?_;refine .s (oK JS (KH (base:=0) i (h.ext d) c c c e l oo BI)) ?_;rintro y w2 ⟨j,ry,p⟩;have o:=A6F e l;have A:=p.miS o oo;refine .r rfl ?_;refine .s (oK JS (KH (base:=base) A ((k.ext d).ext j) c c c o m oo (Ar E (d.trans j).size))) ?_;rintro z w3 ⟨F,G,B⟩;refine A7 ?_;exact uR ⟨(d.trans j).trans F,G,B⟩
end Go.Qf
