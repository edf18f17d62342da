/- Lemmas on the model and on the program's functions, part Zta. -/
import GoSem.Core.View
import Derived.WalkKit
import Derived.Deep.Quiet
import Derived.Deep.LoopGhost
import Derived.KernelRfl
import Derived.Test.YtlhbkhjaajcfgaaGreatProg
import Derived.Laws.BytesString
import Derived.Laws.RangeString
import Derived.Lib.OthersKept
import Derived.Laws.Strings
import Derived.ProofKit
import Derived.OpenShut
import Derived.Lib.SmallJoins
import Derived.Carry
import Derived.ChangeMaps5
import Derived.Maps.AppendAt
import Derived.Laws.Externs
import Derived.Lib.Bytealg
import Derived.ChangeArms
import Derived.Laws.OwnMore
import Derived.Scope
import Derived.RangeFuncLeaves
import Derived.RangeFuncRecord
import Derived.TacticsIn
import Derived.OrdersIn
import Derived.Test.YtlhbkhjaajcfgaaGreatRows
set_option linter.unusedVariables false
set_option linter.unusedSimpArgs false
namespace Go.Qf
open Go
theorem wrap_u64 (n:Int):IntKind.u64.wrap n=n % 18446744073709551616:=by
 show (if (false && decide (n % (2 ^ 64:Int)≥2 ^ (64 - 1)))=true then n % (2 ^ 64:Int) - 2 ^ 64 else n % (2 ^ 64:Int))=_
 rw [Bool.false_and,if_neg (by decide)]
 rfl
theorem wrap_u32 (n:Int):IntKind.u32.wrap n=n % 4294967296:=by
 show (if (false && decide (n % (2 ^ 32:Int)≥2 ^ (32 - 1)))=true then n % (2 ^ 32:Int) - 2 ^ 32 else n % (2 ^ 32:Int))=_
 rw [Bool.false_and,if_neg (by decide)]
 rfl
theorem wrap_u8 (n:Int):IntKind.u8.wrap n=n % 256:=by
 show (if (false && decide (n % (2 ^ 8:Int)≥2 ^ (8 - 1)))=true then n % (2 ^ 8:Int) - 2 ^ 8 else n % (2 ^ 8:Int))=_
 rw [Bool.false_and,if_neg (by decide)]
 rfl
theorem wrap_i64 (n:Int):IntKind.i64.wrap n=(n+9223372036854775808) % 18446744073709551616 - 9223372036854775808:=by
 show (if (true && decide (n % (2 ^ 64:Int)≥2 ^ (64 - 1)))=true then n % (2 ^ 64:Int) - 2 ^ 64 else n % (2 ^ 64:Int))=_
 rw [Bool.true_and]
 have e1:(2:Int) ^ 64=18446744073709551616:=rfl
 have e2:(2:Int) ^ (64 - 1)=9223372036854775808:=rfl
 simp only [e1,e2,decide_eq_true_eq]
 split <;> omega
theorem i64_id {n:Int} (h0:-9223372036854775808≤n) (h1:n≤9223372036854775807):IntKind.i64.wrap n=n:=by
 rw [wrap_i64];omega
theorem u64_id {n:Int} (h0:0≤n) (h1:n≤18446744073709551615):IntKind.u64.wrap n=n:=by
 rw [wrap_u64];omega
theorem u32_id {n:Int} (h0:0≤n) (h1:n≤4294967295):IntKind.u32.wrap n=n:=by
 rw [wrap_u32];omega
end Go.Qf
namespace Go.Qf
open Go Go.RowKit
def look:List (Nat×Value)→Nat→Option Value
 | [],_=>none
 | (k,v)::r,n=>bif Nat.beq k n then some v else look r n
theorem look_cons_self (k:Nat) (v:Value) (r:List (Nat×Value)):look ((k,v)::r) k=some v:=by
 simp [look]
theorem look_cons_ne {k n:Nat} (v:Value) (r:List (Nat×Value)) (h:k≠n):look ((k,v)::r) n=look r n:=by
 have:Nat.beq k n=false:=by
  cases hb:Nat.beq k n
  ·rfl
  ·exact absurd (Nat.eq_of_beq_eq_true hb) h
 simp [look,this]
structure Fits (n:Nat) (E:List (Nat×Value)) (a:Act):Prop where
 size:a.tmps.size=n
 defers:a.defers=[]
 slots:∀ k v,look E k=some v→a.tmps[k]?=some v
theorem Fits.put {n:Nat} {E:List (Nat×Value)} {a:Act} (h:Fits n E a) {d:Nat} (hd:Nat.blt d n=true) (v:Value):Fits n ((d,v)::E) (a.put (some d) v):=by
 have hd':d<n:=by simpa [Nat.blt_eq] using hd
 refine ⟨by simp [Act.put,h.size],by simp [Act.put,h.defers],fun k u hk=>?_⟩
 by_cases e:d=k
 ·subst e
  rw [look_cons_self] at hk
  cases hk
  simp [Act.put,h.size,hd']
 ·rw [look_cons_ne _ _ e] at hk
  simp only [Act.put]
  rw [Array.getElem?_setIfInBounds_ne e]
  exact h.slots k u hk
def Sub:List (Nat×Value)→List (Nat×Value)→Prop
 | [],_=>True
 | (k,v)::r,E=>look E k=some v∧Sub r E
theorem Sub.look {E1 E2:List (Nat×Value)} (h:Sub E1 E2):∀ k v,look E1 k=some v→Qf.look E2 k=some v:=by
 induction E1 with
 | nil=>intro k v hk;simp [Qf.look] at hk
 | cons p r ih =>
  obtain ⟨k0,v0⟩:=p
  intro k v hk
  by_cases e:k0=k
  ·subst e
   rw [look_cons_self] at hk
   cases hk
   exact h.1
  ·rw [look_cons_ne _ _ e] at hk
   exact ih h.2 k v hk
theorem Fits.sub {n:Nat} {E1 E2:List (Nat×Value)} {a:Act} (h:Fits n E2 a) (hs:Sub E1 E2):Fits n E1 a :=
 ⟨h.size,h.defers,fun k v hk=>h.slots k v (hs.look k v hk)⟩
def ov (E:List (Nat×Value)):Operand→Option Value
 | .tmp t=>look E t
 | .const v=>some v
 | .global g=>some (.pointer (some ⟨g,0,none⟩))
 | .func f=>some (.func (.func f) #[] #[])
theorem Fits.eval {n:Nat} {E:List (Nat×Value)} {a:Act} (h:Fits n E a) {x:Operand} {v:Value} (hx:ov E x=some v):a.eval x=v:=by
 cases x with
 | tmp t =>
  have:=h.slots t v hx
  simp [Act.eval,Array.getD_eq_getD_getElem?,this]
 | const u=>simp only [ov,Option.some.injEq] at hx;subst hx;rfl
 | global g=>simp only [ov,Option.some.injEq] at hx;subst hx;rfl
 | func f=>simp only [ov,Option.some.injEq] at hx;subst hx;rfl
def wantE (ops:Array Oper) (E:List (Nat×Value)):Option (Nat×Bool)→Option Bool
 | none=>some true
 | some (j,want) =>
  match (ops[j]?).bind (·.dst) with
  | some d=>match look E d with
   | some (.bool b)=>some (b == want)
   | _=>none
  | none=>none
theorem wantE_spec {n:Nat} {ops:Array Oper} {E:List (Nat×Value)} {a:Act} (h:Fits n E a) {o:Oper} {b:Bool} (hw:wantE ops E o.guard=some b) :
  Region.wanted o (yielded ops a.tmps)=b:=by
 unfold wantE at hw
 unfold Region.wanted
 cases hg:o.guard with
 | none=>rw [hg] at hw;simpa using hw
 | some p =>
  obtain ⟨j,want⟩:=p
  rw [hg] at hw
  simp only at hw ⊢
  cases hd:(ops[j]?).bind (·.dst) with
  | none=>rw [hd] at hw;simp at hw
  | some d =>
   rw [hd] at hw
   simp only at hw
   cases hl:look E d with
   | none=>rw [hl] at hw;simp at hw
   | some v =>
    rw [hl] at hw
    have hs:=h.slots d v hl
    cases v <;> simp at hw
    rename_i b'
    subst hw
    simp [yielded,hd,hs]
def OpR (P:Program) (n:Nat) (o:Oper) (E:List (Nat×Value)) (w:World) (Φ:Value→World→Prop):Prop :=
 ∀ a,Fits n E a→∀ (Q:Exit→Act→World→Prop) (K:Act→World→Prop),(∀ v w',Φ v w'→K (a.put o.dst v) w')→o.wp P a w K Q
def OpG (P:Program) (n:Nat) (ops:Array Oper) (o:Oper) (E:List (Nat×Value)) (w:World) (Φ:Value→World→Prop):Prop :=
 (wantE ops E o.guard=some true∧OpR P n o E w Φ)∨(wantE ops E o.guard=some false∧Φ undef w)
theorem OpR.mono {P:Program} {n:Nat} {o:Oper} {E:List (Nat×Value)} {w:World} {Φ Ψ:Value→World→Prop} (h:OpR P n o E w Φ) (hi:∀ v w',Φ v w'→Ψ v w'):OpR P n o E w Ψ :=
 fun a ha Q K hK=>h a ha Q K fun v w' hv=>hK v w' (hi v w' hv)
def St (P:Program) (n:Nat) (E:List (Nat×Value)) (w:World) (c:Code) (Q:Exit→Act→World→Prop):Prop:=∀ a,Fits n E a→c.wp P Q a w
def StL (P:Program) (n:Nat) (E:List (Nat×Value)) (w:World) (ops:Array Oper) (l:List Oper) (Q:Exit→Act→World→Prop):Prop:=∀ a,Fits n E a→wpList P ops Q l a w
def Out (n:Nat) (E:List (Nat×Value)) (w:World) (e:Exit) (Q:Exit→Act→World→Prop):Prop:=∀ a,Fits n E a→Q e a w
section rules
variable {P:Program} {n:Nat} {E:List (Nat×Value)} {w:World} {Q:Exit→Act→World→Prop} {ops:Array Oper} {rest:List Oper}
theorem StL.step {o:Oper} {d:Nat} {Φ:Value→World→Prop} (hd:o.dst=some d) (hw:wantE ops E o.guard=some true) (hn:Nat.blt d n=true) (h:OpR P n o E w Φ)
  (next:∀ v w',Φ v w'→StL P n ((d,v)::E) w' ops rest Q):StL P n E w ops (o::rest) Q:=by
 intro a ha
 refine wpList_step fun K hK=>?_
 rw [if_pos (wantE_spec ha hw)]
 exact h a ha Q K fun v w' hv=>hK _ _ (next v w' hv _ (by rw [hd];exact ha.put hn v))
theorem StL.step0 {o:Oper} {Φ:Value→World→Prop} (hd:o.dst=none) (hw:wantE ops E o.guard=some true) (h:OpR P n o E w Φ)
  (next:∀ v w',Φ v w'→StL P n E w' ops rest Q):StL P n E w ops (o::rest) Q:=by
 intro a ha
 refine wpList_step fun K hK=>?_
 rw [if_pos (wantE_spec ha hw)]
 exact h a ha Q K fun v w' hv=>hK _ _ (next v w' hv _ (by rw [hd];exact ha))
theorem StL.skip {o:Oper} {d:Nat} (hd:o.dst=some d) (hw:wantE ops E o.guard=some false) (hn:Nat.blt d n=true)
  (next:StL P n ((d,undef)::E) w ops rest Q):StL P n E w ops (o::rest) Q:=by
 intro a ha
 refine wpList_step fun K hK=>?_
 rw [if_neg (by rw [wantE_spec ha hw];simp)]
 exact hK _ _ (next _ (by rw [hd];exact ha.put hn undef))
theorem StL.nil (h:Out n E w .normal Q):StL P n E w ops [] Q:=fun a ha=>wpList_nil (h a ha)
theorem St.seq {x y:Code} (h:St P n E w x (Exit.then (y.wp P Q) Q)):St P n E w (.seq x y) Q:=fun a ha=>wp_seq (h a ha)
theorem St.region {id:Nat} {l:List Oper} (h:StL P n E w l.toArray l Q):St P n E w (.region id l.toArray false) Q:=fun a ha=>wp_region_lit (h a ha)
theorem St.skip (h:Out n E w .normal Q):St P n E w .skip Q:=fun a ha=>wp_skip (h a ha)
theorem St.ret (h:Out n E w .ret Q):St P n E w .ret Q:=fun a ha=>wp_ret (h a ha)
theorem St.exit {id:Nat} (h:Out n E w (.exit id) Q):St P n E w (.exit id) Q:=fun a ha=>wp_exit (h a ha)
theorem St.block {id:Nat} {c:Code} (h:St P n E w c (Exit.inBlock id Q)):St P n E w (.block id c) Q:=fun a ha=>wp_block (h a ha)
theorem St.cond {c:Operand} {x y:Code} {b:Bool} (hb:ov E c=some (.bool b)) (ht:b=true→St P n E w x Q) (hf:b=false→St P n E w y Q):St P n E w (.cond c x y) Q :=
 fun a ha=>wp_cond_split (ha.eval hb) (fun e=>ht e a ha) (fun e=>hf e a ha)
theorem St.condT {c:Operand} {x y:Code} {b:Bool} (hb:ov E c=some (.bool b)) (e:b=true) (ht:St P n E w x Q):St P n E w (.cond c x y) Q :=
 St.cond hb (fun _=>ht) (fun h=>by rw [e] at h;cases h)
theorem St.condF {c:Operand} {x y:Code} {b:Bool} (hb:ov E c=some (.bool b)) (e:b=false) (hf:St P n E w y Q):St P n E w (.cond c x y) Q :=
 St.cond hb (fun h=>by rw [e] at h;cases h) (fun _=>hf)
theorem St.sub {E':List (Nat×Value)} {c:Code} (h:St P n E' w c Q) (hs:Sub E' E):St P n E w c Q:=fun a ha=>h a (ha.sub hs)
theorem Out.then_normal {y:Code} (h:St P n E w y Q):Out n E w .normal (Exit.then (y.wp P Q) Q):=h
theorem Out.then_ret {K:Act→World→Prop} (h:Out n E w .ret Q):Out n E w .ret (Exit.then K Q):=h
theorem Out.then_exit {K:Act→World→Prop} {id:Nat} (h:Out n E w (.exit id) Q):Out n E w (.exit id) (Exit.then K Q):=h
theorem Out.block_normal {id:Nat} (h:Out n E w .normal Q):Out n E w .normal (Exit.inBlock id Q):=h
theorem Out.block_ret {id:Nat} (h:Out n E w .ret Q):Out n E w .ret (Exit.inBlock id Q):=h
theorem Out.block_exit {id:Nat} (h:Out n E w .normal Q):Out n E w (.exit id) (Exit.inBlock id Q):=fun a ha=>by
 show (if id=id then _ else _)
 rw [if_pos rfl];exact h a ha
theorem Out.block_other {id id':Nat} (hne:Nat.beq id' id=false) (h:Out n E w (.exit id') Q):Out n E w (.exit id') (Exit.inBlock id Q):=fun a ha=>by
 show (if id'=id then _ else _)
 rw [if_neg (fun e=>by subst e;simp at hne)];exact h a ha
class NeB (a b:Nat):Prop where
 out:Nat.beq a b=false
instance {b:Nat}:NeB 0 (b+1):=⟨rfl⟩
instance {a:Nat}:NeB (a+1) 0:=⟨rfl⟩
instance {a b:Nat} [h:NeB a b]:NeB (a+1) (b+1):=⟨h.out⟩
class Nav (goal:Prop) (sub:outParam Prop):Prop where
 go:sub→goal
instance (priority:=10) Nav.same (g:Prop):Nav g g:=⟨id⟩
section
variable {s:Prop}
instance [h:Nav (Out n E w .normal Q) s] {ops:Array Oper}:Nav (StL P n E w ops [] Q) s:=⟨fun x=>StL.nil (h.go x)⟩
instance {x y:Code} [h:Nav (St P n E w x (Exit.then (y.wp P Q) Q)) s]:Nav (St P n E w (.seq x y) Q) s:=⟨fun x=>St.seq (h.go x)⟩
instance {id:Nat} {l:List Oper}:Nav (St P n E w (.region id l.toArray false) Q) (StL P n E w l.toArray l Q):=⟨St.region⟩
instance [h:Nav (Out n E w .normal Q) s]:Nav (St P n E w .skip Q) s:=⟨fun x=>St.skip (h.go x)⟩
instance [h:Nav (Out n E w .ret Q) s]:Nav (St P n E w .ret Q) s:=⟨fun x=>St.ret (h.go x)⟩
instance {id:Nat} [h:Nav (Out n E w (.exit id) Q) s]:Nav (St P n E w (.exit id) Q) s:=⟨fun x=>St.exit (h.go x)⟩
instance {id:Nat} {c:Code} [h:Nav (St P n E w c (Exit.inBlock id Q)) s]:Nav (St P n E w (.block id c) Q) s:=⟨fun x=>St.block (h.go x)⟩
instance {y:Code} [h:Nav (St P n E w y Q) s]:Nav (Out n E w .normal (Exit.then (y.wp P Q) Q)) s:=⟨fun x=>Out.then_normal (h.go x)⟩
instance {K:Act→World→Prop} [h:Nav (Out n E w .ret Q) s]:Nav (Out n E w .ret (Exit.then K Q)) s:=⟨fun x=>Out.then_ret (h.go x)⟩
instance {K:Act→World→Prop} {id:Nat} [h:Nav (Out n E w (.exit id) Q) s]:Nav (Out n E w (.exit id) (Exit.then K Q)) s:=⟨fun x=>Out.then_exit (h.go x)⟩
instance {id:Nat} [h:Nav (Out n E w .normal Q) s]:Nav (Out n E w .normal (Exit.inBlock id Q)) s:=⟨fun x=>Out.block_normal (h.go x)⟩
instance {id:Nat} [h:Nav (Out n E w .ret Q) s]:Nav (Out n E w .ret (Exit.inBlock id Q)) s:=⟨fun x=>Out.block_ret (h.go x)⟩
instance {id:Nat} [h:Nav (Out n E w .normal Q) s]:Nav (Out n E w (.exit id) (Exit.inBlock id Q)) s:=⟨fun x=>Out.block_exit (h.go x)⟩
instance {id id':Nat} [k:NeB id' id] [h:Nav (Out n E w (.exit id') Q) s]:Nav (Out n E w (.exit id') (Exit.inBlock id Q)) s:=⟨fun x=>Out.block_other k.out (h.go x)⟩
theorem Nv {a:Prop} {s:Prop} [h:Nav a s] (x:s):a:=h.go x
end
def Again {α:Type} (n:Nat) (Einv:α→List (Nat×Value)) (I:α→World→Prop) (μ:α→Nat) (g:α) (a:Act) (w:World):Prop :=
 ∃ g',Fits n (Einv g') a∧I g' w∧μ g'<μ g
theorem St.loop {α:Type} (Einv:α→List (Nat×Value)) (I:α→World→Prop) (μ:α→Nat) {c:Code} (g0:α) (hs:Sub (Einv g0) E) (h0:I g0 w)
  (round:∀ g w,I g w→St P n (Einv g) w c (Exit.then (Again n Einv I μ g) Q)):St P n E w (.loop c) Q:=by
 intro a ha
 refine wp_loop_ghost (fun k a w=>∃ g,μ g=k∧Fits n (Einv g) a∧I g w) (μ g0) ⟨g0,rfl,ha.sub hs,h0⟩ ?_
 rintro k a' w' ⟨g,rfl,hf,hI⟩
 refine wp_mono (round g w' hI a' hf) ?_
 intro e a2 w2 hq
 cases e with
 | normal =>
  obtain ⟨g',hf',hI',hlt⟩:=hq
  exact ⟨μ g',hlt,g',rfl,hf',hI'⟩
 | exit id=>exact hq
 | goto l=>exact hq
 | ret=>exact hq
 | panic ch=>exact hq
 | outgrown=>exact hq
theorem Out.again {α:Type} {Einv:α→List (Nat×Value)} {I:α→World→Prop} {μ:α→Nat} {g:α} (g':α) (hs:Sub (Einv g') E) (hI:I g' w) (hlt:μ g'<μ g) :
  Out n E w .normal (Exit.then (Again n Einv I μ g) Q):=fun _ ha=>⟨g',ha.sub hs,hI,hlt⟩
end rules
def Ret (Φ:Value→World→Prop) (e:Ending) (w:World):Prop:=∃ v,e=.returned v∧Φ v w
def slotsFrom:Nat→List Value→List (Nat×Value)
 | _,[]=>[]
 | k,v::r=>(k,v)::slotsFrom (k+1) r
theorem look_slotsFrom (l:List Value):∀ (s k:Nat) (v:Value),look (slotsFrom s l) k=some v→s≤k∧l[k - s]?=some v:=by
 induction l with
 | nil=>intro s k v h;simp [slotsFrom,look] at h
 | cons x r ih =>
  intro s k v h
  by_cases e:s=k
  ·subst e
   rw [slotsFrom,look_cons_self] at h
   simpa using h
  ·rw [slotsFrom,look_cons_ne _ _ e] at h
   obtain ⟨h1,h2⟩:=ih (s+1) k v h
   refine ⟨by omega,?_⟩
   have:k - s=(k - (s+1))+1:=by omega
   rw [this]
   simpa using h2
theorem calls_of_St {P:Program} {f:FuncId} {fn:Func} {c:Code} {args:List Value} {w:World} {Φ:Value→World→Prop} {n:Nat}
  (hf:P.funcs[f]?=some fn) (hb:fn.body=some c) (hn:fn.ntmps=n) (hle:Nat.ble args.length n=true)
  (h:St P n (slotsFrom 0 args) w c (bodyPost P fn (Ret Φ))):Calls P f args.toArray w (Ret Φ):=by
 refine calls_of_wp hf hb (h _ ⟨?_,rfl,?_⟩)
 ·have:=Nat.le_of_ble_eq_true hle
  simp [hn];omega
 ·intro k v hk
  obtain ⟨_,h2⟩:=look_slotsFrom args 0 k v hk
  simp only [Nat.sub_zero] at h2
  have hlt:k<args.length:=(List.getElem?_eq_some_iff.1 h2).1
  rw [Array.getElem?_append_left (by simpa using hlt)]
  simpa using h2
theorem Out.ret1 {P:Program} {fn:Func} {n:Nat} {E:List (Nat×Value)} {w:World} {Φ:Value→World→Prop} {t:Tmp} {v:Value} (hr:fn.results=#[.tmp t]) (hv:look E t=some v) (h:Φ v w) :
  Out n E w .ret (bodyPost P fn (Ret Φ)):=fun a ha =>
 bodyPost_ret (results_tmp hr _ P w) ha.defers ⟨_,rfl,by rw [show a.tmps.getD t undef=v from by simp [Array.getD_eq_getD_getElem?,ha.slots t v hv]];exact h⟩
theorem Out.ret2 {P:Program} {fn:Func} {n:Nat} {E:List (Nat×Value)} {w:World} {Φ:Value→World→Prop} {t u:Tmp} {x y:Value} (hr:fn.results=#[.tmp t,.tmp u]) (hx:look E t=some x) (hy:look E u=some y) (h:Φ (.tuple #[x,y]) w) :
  Out n E w .ret (bodyPost P fn (Ret Φ)):=fun a ha =>
 bodyPost_ret (results_tmp2 hr _ P w) ha.defers ⟨_,rfl,by rw [show a.tmps.getD t undef=x from by simp [Array.getD_eq_getD_getElem?,ha.slots t x hx],show a.tmps.getD u undef=y from by simp [Array.getD_eq_getD_getElem?,ha.slots u y hy]];exact h⟩
end Go.Qf
namespace Go.Qf
open Go Go.RowKit
structure TI where
 desc:TypeDesc
 size:Nat
 bytes:Nat
 zero:Value
def lookT:List (Nat×TI)→Nat→Option TI
 | [],_=>none
 | (k,v)::r,n=>bif Nat.beq k n then some v else lookT r n
def TblOk (P:Program) (T:List (Nat×TI)):Prop :=
 ∀ t i,lookT T t=some i→P.underlying t=some i.desc∧∃ inf,P.info? t=some inf∧inf.size=i.size∧inf.bytes=i.bytes∧inf.zero=some i.zero
theorem TblOk.nil (P:Program):TblOk P []:=fun t i h=>by simp [lookT] at h
theorem TblOk.cons {P:Program} {T:List (Nat×TI)} {k:Nat} {i:TI} (hu:P.underlying k=some i.desc)
  (hi:(P.info? k).map (fun x=>(x.size,x.bytes,x.zero))=some (i.size,i.bytes,some i.zero)) (h:TblOk P T):TblOk P ((k,i)::T):=by
 intro t j ht
 by_cases e:k=t
 ·subst e
  simp [lookT] at ht
  subst ht
  cases hx:P.info? k with
  | none=>rw [hx] at hi;simp at hi
  | some x =>
   rw [hx] at hi
   simp at hi
   exact ⟨hu,x,rfl,hi.1,hi.2.1,hi.2.2⟩
 ·have hb:Nat.beq k t=false:=by
   cases hb:Nat.beq k t
   ·rfl
   ·exact absurd (Nat.eq_of_beq_eq_true hb) e
  simp [lookT,hb] at ht
  exact h t j ht
def bitsI (op:BinOp) (k:IntKind) (x y:Int):Int :=
 match op with
 | .and=>k.wrap (BitVec.ofInt k.bits x &&& BitVec.ofInt k.bits y).toNat
 | .or=>k.wrap (BitVec.ofInt k.bits x ||| BitVec.ofInt k.bits y).toNat
 | .xor=>k.wrap (BitVec.ofInt k.bits x ^^^ BitVec.ofInt k.bits y).toNat
 | _=>k.wrap (BitVec.ofInt k.bits x &&& ~~~ BitVec.ofInt k.bits y).toNat
def binPure (op:BinOp) (x y:Value):Option Value :=
 match x,y with
 | .int k a,.int k' b =>
  match op with
  | .shl=>none
  | .shr=>none
  | .quo=>none
  | .rem=>none
  | .add=>bif k == k' then some (.int k (k.wrap (a+b))) else none
  | .sub=>bif k == k' then some (.int k (k.wrap (a - b))) else none
  | .mul=>bif k == k' then some (.int k (k.wrap (a * b))) else none
  | .and=>bif k == k' then some (.int k (bitsI .and k a b)) else none
  | .or=>bif k == k' then some (.int k (bitsI .or k a b)) else none
  | .xor=>bif k == k' then some (.int k (bitsI .xor k a b)) else none
  | .andNot=>bif k == k' then some (.int k (bitsI .andNot k a b)) else none
  | .eql=>bif k == k' then some (.bool (a == b)) else none
  | .neq=>bif k == k' then some (.bool (a != b)) else none
  | .lss=>bif k == k' then some (.bool (decide (a<b))) else none
  | .leq=>bif k == k' then some (.bool (decide (a≤b))) else none
  | .gtr=>bif k == k' then some (.bool (decide (a > b))) else none
  | .geq=>bif k == k' then some (.bool (decide (a≥b))) else none
 | _,_=>none
def shiftPure (op:BinOp) (x:Value) (y:Operand):Option Value :=
 match x,y with
 | .int k a,.const (.int _ (.ofNat s)) =>
  match op with
  | .shl=>bif Nat.ble s k.bits then some (.int k (k.wrap (a * 2 ^ s))) else none
  | .shr=>bif Nat.ble s k.bits then some (.int k (a / 2 ^ s)) else none
  | _=>none
 | _,_=>none
def isAggD:TypeDesc→Bool
 | .struct _=>true
 | .array _ _=>true
 | _=>false
def unPure (op:UnOp) (x:Value):Option Value :=
 match op,x with
 | .neg,.int k a=>some (.int k (k.wrap (0 - a)))
 | .not,.bool b=>some (.bool !b)
 | _,_=>none
def isShift:BinOp→Bool
 | .shl=>true
 | .shr=>true
 | _=>false
def callPure (T:List (Nat×TI)) (E:List (Nat×Value)) (c:Call):Option Value :=
 match c.callee with
 | .builtin .len =>
  match c.args.toList,c.argTypes.toList with
  | [x],[t] =>
   match lookT T t,ov E x with
   | some ⟨.slice _,_,_,_⟩,some (.slice _ m _)=>some (.int .i64 m)
   | some ⟨.string,_,_,_⟩,some (.string s)=>some (.int .i64 s.size)
   | _,_=>none
  | _,_=>none
 | _=>none
def pureOp (T:List (Nat×TI)) (E:List (Nat×Value)):Op→Option Value
 | .move x=>ov E x
 | .assign x=>ov E x
 | .pick c a b =>
  match ov E c with
  | some (.bool true)=>ov E a
  | some (.bool false)=>ov E b
  | _=>none
 | .binOp op _ x y _ =>
  match ov E x with
  | some u=>bif isShift op then shiftPure op u y else
   match ov E y with
   | some v=>binPure op u v
   | none=>none
  | none=>none
 | .unOp op _ x =>
  match ov E x with
  | some u=>unPure op u
  | none=>none
 | .convert src dst x =>
  match lookT T src,lookT T dst,ov E x with
  | some _,some ⟨.int k,_,_,_⟩,some (.int _ m)=>some (.int k (k.wrap m))
  | _,_,_=>none
 | .extract x i =>
  match ov E x with
  | some (.tuple vs)=>vs[i]?
  | _=>none
 | .field t x i =>
  match lookT T t,ov E x with
  | some ⟨.struct fs,_,_,_⟩,some (.agg cs) =>
   match fs[i]? with
   | some f=>match lookT T f.type with
    | some ti=>bif isAggD ti.desc then some (.agg (cs.extract f.offset (f.offset+ti.size))) else cs[f.offset]?
    | none=>none
   | none=>none
  | _,_=>none
 | .fieldAddr t x i =>
  match lookT T t,ov E x with
  | some ⟨.struct fs,_,_,_⟩,some (.pointer (some a)) =>
   match fs[i]? with
   | some f=>match lookT T f.type with
    | some ti=>bif Nat.beq ti.size 0 then none else some (.pointer (some (a.add f.offset)))
    | none=>none
   | none=>none
  | _,_=>none
 | .nilCheck x =>
  match ov E x with
  | some (.pointer (some a))=>some (.pointer (some a))
  | _=>none
 | .call c=>callPure T E c
 | _=>none
section
variable {P:Program} {T:List (Nat×TI)} {n:Nat} {E:List (Nat×Value)} {a:Act} {w:World}
theorem run_underlying_T (hT:TblOk P T) {t:Nat} {i:TI} (h:lookT T t=some i):(underlying t).run P w=.ok i.desc w:=by
 have:=(hT t i h).1
 simp [underlying,this,go_sem]
theorem run_sizeOf_T (hT:TblOk P T) {t:Nat} {i:TI} (h:lookT T t=some i):(sizeOf t).run P w=.ok i.size w:=by
 obtain ⟨_,inf,hi,hs,_,_⟩:=hT t i h
 simp [sizeOf,typeInfo,hi,hs,go_sem]
theorem run_isAgg_T (hT:TblOk P T) {t:Nat} {i:TI} (h:lookT T t=some i):(isAgg t).run P w=.ok (isAggD i.desc) w:=by
 have:=(hT t i h).1
 unfold isAgg
 simp only [Sem.run_bind,run_underlying_T hT h]
 cases hd:i.desc <;> simp [isAggD,go_sem]
theorem binPure_run {op:BinOp} {x y v:Value} {xt:TypeId} {ox oy:Operand} (h:binPure op x y=some v) :
  ((do eqGuard op xt ox oy x y;binOp op xt x y):Sem Value).run P w=.ok v w:=by
 cases x <;> cases y <;> simp only [binPure] at h <;> try (cases h;done)
 rename_i k m k' m'
 have hk:k=k':=by
  cases op <;> simp only [] at h <;> first | (cases h;done) | (
   cases hkk:(k == k') with
   | true=>exact eq_of_beq hkk
   | false=>rw [hkk] at h;cases h)
 subst hk
 cases op <;> simp only [beq_self_eq_true,cond_true,Option.some.injEq] at h <;> first
  | (cases h;done)
  | (subst h;simp [eqGuard,binOp,Op.intArith,Op.intCmp,Op.intBits,bitsI,go_sem])
theorem shiftPure_run {op:BinOp} {x v:Value} {xt:TypeId} {ox oy:Operand} (h:shiftPure op x oy=some v) {y:Value} (hy:ov E oy=some y) :
  ((do eqGuard op xt ox oy x y;binOp op xt x y):Sem Value).run P w=.ok v w:=by
 unfold shiftPure at h
 split at h
 ·rename_i k m yk s
  simp only [ov,Option.some.injEq] at hy
  subst hy
  have e:((Int.ofNat s).toNat)=s:=rfl
  have en:¬ (Int.ofNat s<0):=by simp
  cases op <;> simp only [] at h <;> try (cases h;done)
  ·cases hb:Nat.ble s k.bits with
   | false=>rw [hb] at h;cases h
   | true =>
    have hle:=Nat.le_of_ble_eq_true hb
    rw [hb] at h
    simp only [cond_true,Option.some.injEq] at h
    subst h
    have hsh:Op.shift .shl k m yk (Int.ofNat s)=Pure.pure (.int k (k.wrap (m * 2 ^ s))):=by
     unfold Op.shift;rw [if_neg en];simp only [e,Nat.min_eq_left hle]
    simp only [eqGuard,binOp,hsh]
    simp [go_sem]
  ·cases hb:Nat.ble s k.bits with
   | false=>rw [hb] at h;cases h
   | true =>
    have hle:=Nat.le_of_ble_eq_true hb
    rw [hb] at h
    simp only [cond_true,Option.some.injEq] at h
    subst h
    have hp:(0:Int)≤2 ^ s:=Int.le_of_lt (Int.pow_pos (by decide))
    have hsh:Op.shift .shr k m yk (Int.ofNat s)=Pure.pure (.int k (m / 2 ^ s)):=by
     unfold Op.shift;rw [if_neg en];simp only [e,Nat.min_eq_left hle,Int.fdiv_eq_ediv_of_nonneg _ hp]
    simp only [eqGuard,binOp,hsh]
    simp [go_sem]
 ·cases h
theorem pureOp_run (hT:TblOk P T) {ρ:Operand→Value} (hρ:∀ {x v},ov E x=some v→ρ x=v) {o:Oper} {v:Value} (h:pureOp T E o.op=some v):(execOp ρ o).run P w=.ok (.value v) w:=by
 obtain ⟨dst,op,ty,pos,after,guard⟩:=o
 simp only at h
 cases op <;> simp only [pureOp] at h <;> try (cases h;done)
 case move x=>simp [execOp,hρ h,go_sem]
 case assign x=>simp [execOp,hρ h,go_sem]
 case pick c x y =>
  split at h
  ·rename_i hc
   simp [execOp,hρ hc,hρ h,go_sem,asBool]
  ·rename_i hc
   simp [execOp,hρ hc,hρ h,go_sem,asBool]
  ·cases h
 case binOp op xt x y yt =>
  split at h
  ·rename_i u hu
   cases hs:isShift op with
   | true =>
    rw [hs] at h
    simp only [cond_true] at h
    have hy:∃ yv,ov E y=some yv:=by
     unfold shiftPure at h
     split at h
     ·exact ⟨_,rfl⟩
     ·cases h
    obtain ⟨yv,hy⟩:=hy
    have:=shiftPure_run (P:=P) (w:=w) (xt:=xt) (ox:=x) h hy
    simp only [execOp,hρ hu,hρ hy]
    simp only [Sem.run_bind] at this ⊢
    simp [this]
   | false =>
    rw [hs] at h
    simp only [cond_false] at h
    split at h
    ·rename_i yv hy
     have:=binPure_run (P:=P) (w:=w) (xt:=xt) (ox:=x) (oy:=y) h
     simp only [execOp,hρ hu,hρ hy]
     simp only [Sem.run_bind] at this ⊢
     simp [this]
    ·cases h
  ·cases h
 case unOp op xt x =>
  split at h
  ·rename_i u hu
   unfold unPure at h
   split at h
   ·cases h;simp [execOp,hρ hu,Op.unary,Op.intArith,go_sem]
   ·cases h;simp [execOp,hρ hu,Op.unary,go_sem]
   ·cases h
  ·cases h
 case convert src dst x =>
  split at h
  ·rename_i i0 k _ _ _ k2 m hs hd hx
   simp only [Option.some.injEq] at h
   subst h
   simp [execOp,convert,hρ hx,run_underlying_T hT hs,run_underlying_T hT hd,Conv.intToInt,go_sem]
  ·cases h
 case extract x i =>
  split at h
  ·rename_i vs hx
   simp [execOp,hρ hx,Instr.extract,h,go_sem]
  ·cases h
 case field t x i =>
  split at h
  ·rename_i fs _ _ _ cs ht hx
   split at h
   ·rename_i f hf
    split at h
    ·rename_i ti hti
     simp only [execOp,Instr.field,hρ hx,Sem.run_bind,run_underlying_T hT ht,Result.andThen_ok,hf,asAgg,part,run_isAgg_T hT hti]
     cases hag:isAggD ti.desc with
     | true =>
      rw [hag] at h
      simp only [cond_true,Option.some.injEq] at h
      subst h
      simp [run_sizeOf_T hT hti,go_sem]
     | false =>
      rw [hag] at h
      simp only [cond_false] at h
      simp [h,go_sem]
    ·cases h
   ·cases h
  ·cases h
 case fieldAddr t x i =>
  split at h
  ·rename_i fs _ _ _ ad ht hx
   split at h
   ·rename_i f hf
    split at h
    ·rename_i ti hti
     cases hz:Nat.beq ti.size 0 with
     | true=>rw [hz] at h;cases h
     | false =>
      rw [hz] at h
      simp only [cond_false,Option.some.injEq] at h
      subst h
      have hne:¬ ti.size=0:=fun e=>by rw [e] at hz;cases hz
      simp [execOp,Instr.fieldAt,hρ hx,run_underlying_T hT ht,hf,Instr.sureAddr,fieldPlace,run_sizeOf_T hT hti,hne,go_sem]
    ·cases h
   ·cases h
  ·cases h
 case nilCheck x =>
  split at h
  ·rename_i ad hx
   simp only [Option.some.injEq] at h
   subst h
   simp [execOp,hρ hx,go_sem]
  ·cases h
 case call c =>
  obtain ⟨callee,args,argTypes⟩:=c
  unfold callPure at h
  simp only at h
  split at h <;> try (cases h;done)
  split at h
  ·rename_i x t hargs htys
   have hA:args=#[x]:=by rw [← Array.toArray_toList (xs:=args),hargs]
   have hB:argTypes=#[t]:=by rw [← Array.toArray_toList (xs:=argTypes),htys]
   subst hA hB
   split at h
   ·rename_i e _ _ _ ad m c ht hx
    simp only [Option.some.injEq] at h
    subst h
    simp [Builtin.len_,hρ hx,run_underlying_T hT ht,goInt,go_sem]
   ·rename_i _ _ _ s ht hx
    simp only [Option.some.injEq] at h
    subst h
    simp [Builtin.len_,hρ hx,run_underlying_T hT ht,goInt,go_sem]
   ·cases h
  ·cases h
theorem OpR.pure (hT:TblOk P T) {o:Oper} {v:Value} (h:pureOp T E o.op=some v):OpR P n o E w (fun v' w'=>v=v'∧w=w'):=by
 intro a ha Q K hK
 unfold Oper.wp
 rw [pureOp_run hT (fun hx=>ha.eval hx) h,Oper.upon_value]
 exact hK v w ⟨rfl,rfl⟩
def runPure (T:List (Nat×TI)) (n:Nat) (ops:Array Oper):Nat→List (Nat×Value)→List Oper→List (Nat×Value)×List Oper
 | 0,E,l=>(E,l)
 | _+1,E,[]=>(E,[])
 | m+1,E,o::r =>
  match o.dst,wantE ops E o.guard with
  | some d,some true =>
   bif Nat.blt d n then
    match pureOp T E o.op with
    | some v=>runPure T n ops m ((d,v)::E) r
    | none=>(E,o::r)
   else (E,o::r)
  | some d,some false=>bif Nat.blt d n then runPure T n ops m ((d,undef)::E) r else (E,o::r)
  | _,_=>(E,o::r)
theorem StL.run (hT:TblOk P T) {ops:Array Oper} {Q:Exit→Act→World→Prop}:∀ (m:Nat) {E E':List (Nat×Value)} {l l':List Oper},runPure T n ops m E l=(E',l')→StL P n E' w ops l' Q→StL P n E w ops l Q:=by
 intro m
 induction m with
 | zero=>intro E E' l l' h hn;simp only [runPure,Prod.mk.injEq] at h;obtain ⟨rfl,rfl⟩:=h;exact hn
 | succ m ih =>
  intro E E' l l' h hn
  cases l with
  | nil=>simp only [runPure,Prod.mk.injEq] at h;obtain ⟨rfl,rfl⟩:=h;exact hn
  | cons o r =>
   simp only [runPure] at h
   split at h
   ·rename_i d hd hw
    cases hb:Nat.blt d n with
    | false=>rw [hb] at h;simp only [cond_false,Prod.mk.injEq] at h;obtain ⟨rfl,rfl⟩:=h;exact hn
    | true =>
     rw [hb] at h
     simp only [cond_true] at h
     split at h
     ·rename_i v hv
      refine StL.step hd hw hb (OpR.pure hT hv) ?_
      rintro v' w' ⟨rfl,rfl⟩
      exact ih h hn
     ·simp only [Prod.mk.injEq] at h;obtain ⟨rfl,rfl⟩:=h;exact hn
   ·rename_i d hd hw
    cases hb:Nat.blt d n with
    | false=>rw [hb] at h;simp only [cond_false,Prod.mk.injEq] at h;obtain ⟨rfl,rfl⟩:=h;exact hn
    | true =>
     rw [hb] at h
     simp only [cond_true] at h
     exact StL.skip hd hw hb (ih h hn)
   ·simp only [Prod.mk.injEq] at h;obtain ⟨rfl,rfl⟩:=h;exact hn
theorem StL.as (hT:TblOk P T) {ops:Array Oper} {Q:Exit→Act→World→Prop} (m:Nat) {E E':List (Nat×Value)} {l l':List Oper} {d:Nat} {v:Value} (v':Value) (h:runPure T n ops m E l=((d,v)::E',l')) (hv:v=v') (hn:StL P n ((d,v')::E') w ops l' Q):StL P n E w ops l Q :=
 StL.run hT m (hv ▸ h) hn
theorem bool_true {p:Prop} [Decidable p] (h:p):Value.bool (decide p)=.bool true:=by rw [decide_eq_true h]
theorem bool_false {p:Prop} [Decidable p] (h:¬ p):Value.bool (decide p)=.bool false:=by rw [decide_eq_false h]
end
end Go.Qf
namespace Go.Qf
open Go Go.RowKit
abbrev Ext (w w':World):Prop:=Below w.heap.size w w'
theorem Ext.refl (w:World):Ext w w:=Below.refl _ _
theorem Ext.trans {a b c:World} (h:Ext a b) (k:Ext b c):Ext a c:=Below.trans h (Below.mono k h.size)
theorem Ext.drewN {w w':World} (h:Ext w w') (m:Nat):Ext w (w'.drewN m):=⟨h.os,h.tape,h.output,h.size,h.block⟩
def Blk (e:TypeId) (w:World) (b:Nat) (C:List Value):Prop:=w.heap[b]?=some (.cells C.toArray e (0,0))
theorem Blk.lt {e:TypeId} {w:World} {b:Nat} {C:List Value} (h:Blk e w b C):b<w.heap.size:=(Array.getElem?_eq_some_iff.1 h).1
theorem Blk.ext {e:TypeId} {w w':World} {b:Nat} {C:List Value} (h:Blk e w b C) (hx:Ext w w'):Blk e w' b C:=(hx.block b h.lt).trans h
theorem Blk.drewN {e:TypeId} {w:World} {b:Nat} {C:List Value} (h:Blk e w b C) (m:Nat):Blk e (w.drewN m) b C:=h
theorem Blk.cell {e:TypeId} {w:World} {b:Nat} {C:List Value} (h:Blk e w b C) {i:Nat} {v:Value} (hi:C[i]?=some v):w.cell? ⟨b,i,none⟩=some v:=by
 unfold Blk at h
 simp [World.cell?,h,hi]
theorem Blk.frozen {e:TypeId} {w:World} {b:Nat} {C:List Value} (h:Blk e w b C) (i:Nat) (s:Option Nat):w.frozen? ⟨b,i,s⟩=false:=by
 unfold Blk at h
 simp [World.frozen?,h]
structure Upd (b:Nat) (w w':World):Prop where
 os:w'.os=w.os
 tape:w'.tape=w.tape
 output:w'.output=w.output
 size:w.heap.size≤w'.heap.size
 block:∀ k,k<w.heap.size→k≠b→w'.heap[k]?=w.heap[k]?
theorem Upd.refl (b:Nat) (w:World):Upd b w w:=⟨rfl,rfl,rfl,Nat.le_refl _,fun _ _ _=>rfl⟩
theorem Upd.trans {b:Nat} {x y z:World} (h:Upd b x y) (k:Upd b y z):Upd b x z :=
 ⟨k.os.trans h.os,k.tape.trans h.tape,k.output.trans h.output,Nat.le_trans h.size k.size,fun i hi hb=>(k.block i (Nat.lt_of_lt_of_le hi h.size) hb).trans (h.block i hi hb)⟩
theorem Ext.upd {w w':World} (h:Ext w w') (b:Nat):Upd b w w':=⟨h.os,h.tape,h.output,h.size,fun k hk _=>h.block k hk⟩
theorem Ext.then_upd {w w' w'':World} (h:Ext w w') {b:Nat} (k:Upd b w' w'') (hb:w.heap.size≤b):Ext w w'' :=
 ⟨k.os.trans h.os,k.tape.trans h.tape,k.output.trans h.output,Nat.le_trans h.size k.size,fun i hi=>(k.block i (Nat.lt_of_lt_of_le hi h.size) (by omega)).trans (h.block i hi)⟩
theorem Blk.upd {e:TypeId} {w w':World} {b c:Nat} {C:List Value} (h:Blk e w b C) (hx:Upd c w w') (hne:b≠c):Blk e w' b C:=(hx.block b h.lt hne).trans h
theorem Ext.cell {w w':World} (hx:Ext w w') {a:Addr} {v:Value} (h:w.cell? a=some v):w'.cell? a=some v:=by
 have hlt:a.block<w.heap.size:=by
  unfold World.cell? at h
  split at h
  ·rename_i hb
   exact (Array.getElem?_eq_some_iff.1 hb).1
  ·cases h
 unfold World.cell? at h ⊢
 rw [hx.block _ hlt]
 exact h
theorem Upd.cell {b:Nat} {w w':World} (hx:Upd b w w') {a:Addr} {v:Value} (h:w.cell? a=some v) (hne:a.block≠b):w'.cell? a=some v:=by
 have hlt:a.block<w.heap.size:=by
  unfold World.cell? at h
  split at h
  ·rename_i hb
   exact (Array.getElem?_eq_some_iff.1 hb).1
  ·cases h
 unfold World.cell? at h ⊢
 rw [hx.block _ hlt hne]
 exact h
def Row (_e:TypeId) (w:World) (v:Value) (cs:List Value):Prop :=
 ∃ p cap,v=.slice p cs.length cap∧cs.length≤cap∧(p=none→cap=0)∧∀ a,p=some a→∀ i c,cs[i]?=some c→w.cell? (a.add i)=some c
theorem Row.ext {e:TypeId} {w w':World} {v:Value} {cs:List Value} (h:Row e w v cs) (hx:Ext w w'):Row e w' v cs:=by
 obtain ⟨p,cap,hv,hl,h0,hc⟩:=h
 exact ⟨p,cap,hv,hl,h0,fun a ha i c hi=>hx.cell (hc a ha i c hi)⟩
def Apart (b:Nat) (v:Value):Prop:=∀ c off s len cap,v=.slice (some ⟨c,off,s⟩) len cap→c≠b
theorem addr_add_block (a:Addr) (i:Nat):(a.add i).block=a.block:=by
 unfold Addr.add
 split <;> rfl
theorem Row.upd {e:TypeId} {w w':World} {v:Value} {cs:List Value} (h:Row e w v cs) {b:Nat} (hx:Upd b w w') (ha:Apart b v):Row e w' v cs:=by
 obtain ⟨p,cap,hv,hl,h0,hc⟩:=h
 refine ⟨p,cap,hv,hl,h0,fun a hp i c hi=>hx.cell (hc a hp i c hi) ?_⟩
 rw [addr_add_block]
 subst hp
 exact ha a.block a.off a.spot _ _ hv
theorem Row.get {e:TypeId} {w:World} {v:Value} {cs:List Value} (h:Row e w v cs) {i:Nat} {c:Value} (hi:cs[i]?=some c) :
  ∃ a cap,v=.slice (some a) cs.length cap∧w.cell? (a.add i)=some c:=by
 have hlt:i<cs.length:=(List.getElem?_eq_some_iff.1 hi).1
 obtain ⟨p,cap,hv,hl,h0,hc⟩:=h
 cases p with
 | none=>have:=h0 rfl;omega
 | some a=>exact ⟨a,cap,hv,hc a rfl i c hi⟩
theorem Row.len {e:TypeId} {w:World} {v:Value} {cs:List Value} (h:Row e w v cs):∃ p cap,v=.slice p cs.length cap:=by
 obtain ⟨p,cap,hv,_⟩:=h
 exact ⟨p,cap,hv⟩
theorem Row.nil_of {e:TypeId} {w:World} {len cap:Nat} {cs:List Value} (h:Row e w (.slice none len cap) cs):cs=[]:=by
 obtain ⟨p,cap',hv,hl,h0,_⟩:=h
 simp only [Value.slice.injEq] at hv
 have:=h0 hv.1.symm
 exact List.eq_nil_of_length_eq_zero (by omega)
def RunsTo (P:Program) (n:Nat) (o:Oper) (E:List (Nat×Value)) (w:World) (v:Value):Prop :=
 ∀ a,Fits n E a→(execOp a.eval o).run P w=.ok (.value v) w
section
variable {P:Program} {T:List (Nat×TI)} {n:Nat} {E:List (Nat×Value)} {w:World}
theorem RunsTo.op {o:Oper} {v:Value} (h:RunsTo P n o E w v):OpR P n o E w (fun v' w'=>v=v'∧w=w'):=by
 intro a ha Q K hK
 unfold Oper.wp
 rw [h a ha,Oper.upon_value]
 exact hK v w ⟨rfl,rfl⟩
theorem RunsTo.pure (hT:TblOk P T) {o:Oper} {v:Value} (h:pureOp T E o.op=some v):RunsTo P n o E w v :=
 fun _ ha=>pureOp_run hT (fun hx=>ha.eval hx) h
theorem RunsTo.indexAddr (hT:TblOk P T) {d:Option Tmp} {t:TypeId} {x i:Operand} {ty:TypeId} {pos:String} {af:Array Edge} {g:Option (Nat×Bool)} {et:TypeId} {s1 s2:Nat} {z:Value} {et1:TI} {a:Addr} {len cap:Nat} {k:IntKind} {iv:Int}
  (ht:lookT T t=some ⟨.slice et,s1,s2,z⟩) (hte:lookT T et=some et1) (hsz:et1.size=1) (hx:ov E x=some (.slice (some a) len cap)) (hi:ov E i=some (.int k iv)) (h0:0≤iv) (h1:iv<len) :
  RunsTo P n ⟨d,.indexAddr t x i,ty,pos,af,g⟩ E w (.pointer (some (a.add iv.toNat))):=by
 intro b hb
 have e1:=hb.eval hx
 have e2:=hb.eval hi
 generalize b.eval=ρ at e1 e2
 simp [execOp,Instr.indexAt,e1,e2,run_underlying_T hT ht,run_sizeOf_T hT hte,hsz,h0,h1,asIntOf,go_sem]
theorem run_load1 {a:Addr} {v:Value} (hc:w.cell? a=some v):(Go.load a).run P w=.ok v w:=by
 unfold Go.load
 simp only [Sem.run,hc]
theorem RunsTo.load (hT:TblOk P T) {d:Option Tmp} {t:TypeId} {x:Operand} {ty:TypeId} {pos:String} {af:Array Edge} {g:Option (Nat×Bool)} {ti:TI} {a:Addr} {v:Value}
  (ht:lookT T t=some ti) (hag:isAggD ti.desc=false) (hx:ov E x=some (.pointer (some a))) (hc:w.cell? a=some v) :
  RunsTo P n ⟨d,.load t x,ty,pos,af,g⟩ E w v:=by
 intro b hb
 have e1:=hb.eval hx
 generalize b.eval=ρ at e1
 simp [execOp,Instr.loadAt,Instr.sureAddr,loadVar,e1,run_isAgg_T hT ht,hag,hc,go_sem]
theorem run_loadCellsFrom {e:TypeId} {b:Nat} {C:List Value} (h:Blk e w b C) (off:Nat):∀ (m i:Nat) (acc:Array Value),off+i+m≤C.length →
  (loadCellsFrom ⟨b,off,none⟩ i m acc).run P w=.ok (acc++((C.drop (off+i)).take m).toArray) w:=by
 intro m
 induction m with
 | zero=>intro i acc _;simp [loadCellsFrom,go_sem]
 | succ m ih =>
  intro i acc hle
  have hlt:off+i<C.length:=by omega
  have hc:w.cell? (Addr.add ⟨b,off,none⟩ i)=some C[off+i]:=by
   have:Addr.add ⟨b,off,none⟩ i=⟨b,off+i,none⟩:=by
    unfold Addr.add
    split
    ·rename_i h0;subst h0;rfl
    ·rfl
   rw [this]
   exact h.cell (by simp [hlt])
  unfold loadCellsFrom
  simp only [Sem.run_bind]
  have hl:(Go.load (Addr.add ⟨b,off,none⟩ i)).run P w=.ok C[off+i] w:=run_load1 hc
  rw [hl,Result.andThen_ok,ih (i+1) _ (by omega)]
  congr 1
  rw [List.drop_eq_getElem_cons hlt,List.take_succ_cons,show off+(i+1)=off+i+1 from by omega]
  simp
theorem RunsTo.loadAgg (hT:TblOk P T) {d:Option Tmp} {t:TypeId} {x:Operand} {ty:TypeId} {pos:String} {af:Array Edge} {g:Option (Nat×Bool)} {ti:TI} {b off:Nat} {e:TypeId} {C cs:List Value}
  (ht:lookT T t=some ti) (hag:isAggD ti.desc=true) (hx:ov E x=some (.pointer (some ⟨b,off,none⟩))) (hb:Blk e w b C) (hle:off+ti.size≤C.length) (hcs:(C.drop off).take ti.size=cs) :
  RunsTo P n ⟨d,.load t x,ty,pos,af,g⟩ E w (.agg cs.toArray):=by
 intro a ha
 have e1:=ha.eval hx
 generalize a.eval=ρ at e1
 have hr:=run_loadCellsFrom (P:=P) hb off ti.size 0 #[] (by omega)
 simp only [Nat.add_zero,hcs] at hr
 simp [execOp,Instr.loadAt,Instr.sureAddr,loadVar,e1,run_isAgg_T hT ht,hag,run_sizeOf_T hT ht,loadCells,hr,go_sem]
end
theorem sbb {p:Prop} (h:p:=by repeat first | exact True.intro | refine And.intro rfl ?_):p:=h
theorem upp {p:Prop} (h:p:=by first | assumption | exact Ext.refl _ | (first | apply Blk.ext | apply CanO.ext | apply Den.ext | apply Sl.ext | apply SlO.ext | apply Dn.ext | apply It.ext | apply CanR.ext | apply DnR.ext | skip) <;> (repeat first | assumption | refine Ext.trans ?_ (by assumption))):p:=h
section
variable {P:Program} {n:Nat} {E:List (Nat×Value)} {w:World} {ops:Array Oper} {rest:List Oper} {Q:Exit→Act→World→Prop}
theorem St.cF {c:Operand} {x y:Code} {b:Bool} (hf:St P n E w y Q) (hb:ov E c=some (.bool b):=by exact rfl) (e:b=false:=by exact rfl):St P n E w (.cond c x y) Q:=St.condF hb e hf
theorem St.cT {c:Operand} {x y:Code} {b:Bool} (hf:St P n E w x Q) (hb:ov E c=some (.bool b):=by exact rfl) (e:b=true:=by exact rfl):St P n E w (.cond c x y) Q:=St.condT hb e hf
theorem StL.s {o:Oper} {d:Nat} {Φ:Value→World→Prop} (h:OpR P n o E w Φ) (next:∀ v w',Φ v w'→StL P n ((d,v)::E) w' ops rest Q) (hd:o.dst=some d:=by rfl) (hw:wantE ops E o.guard=some true:=by rfl) (hn:Nat.blt d n=true:=by rfl):StL P n E w ops (o::rest) Q:=StL.step hd hw hn h next
theorem StL.p {o:Oper} {d:Nat} {v:Value} (h:RunsTo P n o E w v) (next:StL P n ((d,v)::E) w ops rest Q) (hd:o.dst=some d:=by rfl) (hw:wantE ops E o.guard=some true:=by rfl) (hn:Nat.blt d n=true:=by rfl):StL P n E w ops (o::rest) Q:=StL.step hd hw hn h.op (by rintro _ _ ⟨rfl,rfl⟩;exact next)
end
end Go.Qf
namespace Go.Qf
open Go Go.RowKit
theorem Blk.set {e:TypeId} {w:World} {b:Nat} {C:List Value} (h:Blk e w b C) (i:Nat) (v:Value):Blk e (w.setCell ⟨b,i,none⟩ v) b (C.set i v):=by
 unfold Blk at *
 simp [World.setCell,Array.getElem?_modify,h]
theorem upd_setCell (w:World) (b i:Nat) (s:Option Nat) (v:Value):Upd b w (w.setCell ⟨b,i,s⟩ v) :=
 ⟨rfl,rfl,rfl,by simp [World.setCell],fun k _ hb=>by
  simp only [World.setCell,Array.getElem?_modify]
  rw [if_neg (fun e=>hb e.symm)]⟩
section
variable {P:Program} {T:List (Nat×TI)} {n:Nat} {E:List (Nat×Value)} {w:World}
theorem run_store1 {e:TypeId} {b i:Nat} {C:List Value} (h:Blk e w b C) (hi:i<C.length) {v:Value} (hv:v.oneCell'=true):(Go.store ⟨b,i,none⟩ v).run P w=.ok () (w.setCell ⟨b,i,none⟩ v):=by
 have hc:w.cell? ⟨b,i,none⟩=some C[i]:=h.cell (by simp [hi])
 have hf:=h.frozen i none
 unfold Go.store
 cases v <;> simp [Value.oneCell'] at hv <;> simp [Sem.run,hc,hf]
def over (C:List Value) (k:Nat):List Value→List Value
 | []=>C
 | v::r=>over (C.set k v) (k+1) r
theorem run_storeCells {e:TypeId} {b off:Nat}:∀ (vs:List Value) (w:World) (C:List Value) (i:Nat),Blk e w b C→off+i+vs.length≤C.length→(∀ u ∈ vs,u.oneCell'=true) →
  ∃ w',(storeCells ⟨b,off,none⟩ vs i).run P w=.ok () w'∧Blk e w' b (over C (off+i) vs)∧Upd b w w':=by
 intro vs
 induction vs with
 | nil=>intro w C i h _ _;exact ⟨w,by simp [storeCells,go_sem],h,Upd.refl _ _⟩
 | cons v r ih =>
  intro w C i h hle h1
  have ha:Addr.add ⟨b,off,none⟩ i=⟨b,off+i,none⟩:=by
   unfold Addr.add
   split
   ·rename_i h0;subst h0;rfl
   ·rfl
  have hs:=run_store1 (P:=P) h (i:=off+i) (by simp at hle;omega) (h1 v (by simp))
  obtain ⟨w',hr,hb,hu⟩:=ih (w.setCell ⟨b,off+i,none⟩ v) (C.set (off+i) v) (i+1) (h.set _ _) (by simp at hle ⊢;omega) (fun u hu=>h1 u (by simp [hu]))
  refine ⟨w',?_,?_,(upd_setCell _ _ _ _ _).trans hu⟩
  ·simp only [storeCells,Sem.run_bind,ha,hs,Result.andThen_ok]
   exact hr
  ·simpa [over,Nat.add_assoc] using hb
theorem OpR.store (hT:TblOk P T) {d:Option Tmp} {t:TypeId} {x y:Operand} {ty:TypeId} {pos:String} {af:Array Edge} {g:Option (Nat×Bool)} {ti:TI} {e:TypeId} {b off:Nat} {C vs:List Value} {v:Value}
  (ht:lookT T t=some ti) (hx:ov E x=some (.pointer (some ⟨b,off,none⟩))) (hy:ov E y=some v) (hcs:v.cells.toList=vs) (hsz:vs.length=ti.size) (hb:Blk e w b C) (hle:off+vs.length≤C.length) (h1:∀ u ∈ vs,u.oneCell'=true) :
  OpR P n ⟨d,.store t x y,ty,pos,af,g⟩ E w (fun _ w'=>Blk e w' b (over C off vs)∧Upd b w w'):=by
 intro a ha Q K hK
 obtain ⟨w',hr,hb',hu⟩:=run_storeCells (P:=P) vs w C 0 hb (by simpa using hle) h1
 have e1:=ha.eval hx
 have e2:=ha.eval hy
 have hne:¬ (v.cells.size≠ti.size):=by rw [← hsz,← hcs];simp
 have hrun:(execOp a.eval ⟨d,.store t x y,ty,pos,af,g⟩).run P w=.ok .skip w':=by
  generalize a.eval=ρ at e1 e2
  simp only [execOp,e1,e2,Instr.storeAt,Instr.sureAddr,storeVar,Sem.run_bind,run_sizeOf_T hT ht,Result.andThen_ok,Sem.run_pure,if_neg hne,hcs,hr]
 unfold Oper.wp
 rw [hrun,Oper.upon_skip]
 exact hK undef w' ⟨by simpa using hb',hu⟩
theorem blk_alloc (w:World) (e:TypeId) (C:Array Value):Blk e (w.alloc (.cells C e (0,0))) w.heap.size C.toList:=by
 show (w.heap.push _)[w.heap.size]?=_
 simp
theorem size_alloc1 (w:World) (o:Obj):(w.alloc o).heap.size=w.heap.size+1:=by
 show (w.heap.push o).size=_
 simp
theorem ext_alloc (w:World) (o:Obj):Ext w (w.alloc o):=(Below.refl _ _).alloc (Nat.le_refl _) o
theorem OpR.alloc (hT:TblOk P T) {d:Option Tmp} {t:TypeId} {ty:TypeId} {pos:String} {af:Array Edge} {g:Option (Nat×Bool)} {ti:TI} (ht:lookT T t=some ti) :
  OpR P n ⟨d,.alloc t,ty,pos,af,g⟩ E w (fun v w'=>v=.pointer (some ⟨w.heap.size,0,none⟩)∧Blk t w' w.heap.size ti.zero.cells.toList∧Ext w w'∧w'.heap.size=w.heap.size+1):=by
 intro a ha Q K hK
 obtain ⟨_,inf,hi,_,_,hz⟩:=hT t ti ht
 have hrun:(execOp a.eval ⟨d,.alloc t,ty,pos,af,g⟩).run P w=.ok (.value (.pointer (some ⟨w.heap.size,0,none⟩))) (w.alloc (.cells ti.zero.cells t (0,0))):=by
  simp [execOp,Instr.alloc,zeroValue,typeInfo,hi,hz,newVar,newRow,go_sem]
 unfold Oper.wp
 rw [hrun,Oper.upon_value]
 exact hK _ _ ⟨rfl,blk_alloc _ _ _,ext_alloc _ _,size_alloc1 _ _⟩
theorem OpR.box {d:Option Tmp} {t:TypeId} {x:Operand} {ty:TypeId} {pos:String} {af:Array Edge} {g:Option (Nat×Bool)} {v:Value} (hx:ov E x=some v) :
  OpR P n ⟨d,.box t x,ty,pos,af,g⟩ E w (fun u w'=>u=.pointer (some ⟨w.heap.size,0,none⟩)∧Blk t w' w.heap.size v.cells.toList∧Ext w w'∧w'.heap.size=w.heap.size+1):=by
 intro a ha Q K hK
 have e1:=ha.eval hx
 have hrun:(execOp a.eval ⟨d,.box t x,ty,pos,af,g⟩).run P w=.ok (.value (.pointer (some ⟨w.heap.size,0,none⟩))) (w.alloc (.cells v.cells t (0,0))):=by
  generalize a.eval=ρ at e1
  simp [execOp,Instr.box,e1,newVar,newRow,go_sem]
 unfold Oper.wp
 rw [hrun,Oper.upon_value]
 exact hK _ _ ⟨rfl,blk_alloc _ _ _,ext_alloc _ _,size_alloc1 _ _⟩
abbrev Own (base:Nat) (e:TypeId) (w:World) (v:Value) (cs:List Value):Prop:=w.ownsRow base e 1 v cs.length cs
theorem Own.row {base:Nat} {e:TypeId} {v:Value} {cs:List Value} (h:Own base e w v cs):Row e w v cs:=by
 rcases h.2 with ⟨hv,h0⟩ | ⟨g,cap,cur,hv,_,hg,hn,_,hs,ht⟩
 ·exact ⟨none,0,by rw [hv,h0],by omega,fun _=>rfl,fun a ha=>by cases ha⟩
 ·refine ⟨_,cap,hv,hn,fun hp=>(by cases hp),fun a ha i c hi=>?_⟩
  cases ha
  have hi2:=(List.getElem?_eq_some_iff.1 hi).1
  have:cur[i]?=some c:=by
   rw [← hi,← ht]
   simp only [Nat.mul_one]
   rw [List.getElem?_take_of_lt hi2]
   simp
  have ha:Addr.add ⟨g,0,none⟩ i=⟨g,i,none⟩:=by
   unfold Addr.add
   split
   ·rename_i h0;subst h0;rfl
   ·simp
  rw [ha]
  simp [World.cell?,hg,this]
theorem Own.ext {base:Nat} {e:TypeId} {w':World} {v:Value} {cs:List Value} (h:Own base e w v cs) (hx:Ext w w'):Own base e w' v cs:=by
 refine ⟨h.1,?_⟩
 rcases h.2 with h0 | ⟨g,cap,cur,hv,hb,hg,r⟩
 ·exact .inl h0
 ·exact .inr ⟨g,cap,cur,hv,hb,(hx.block g (Array.getElem?_eq_some_iff.1 hg).1).trans hg,r⟩
theorem run_typeInfo {t:TypeId} {inf:TypeInfo} (hi:P.info? t=some inf):(typeInfo t).run P w=.ok inf w:=by
 simp [typeInfo,hi,go_sem]
theorem OpR.make (hT:TblOk P T) {d:Option Tmp} {t:TypeId} {x y:Operand} {ty:TypeId} {pos:String} {af:Array Edge} {g:Option (Nat×Bool)} {et:TypeId} {s1 s2:Nat} {z:Value} {ti:TI} {k k':IntKind} {iv jv:Int} (m:Nat)
  (ht:lookT T t=some ⟨.slice et,s1,s2,z⟩) (hte:lookT T et=some ti) (hsz:ti.size=1) (hz:ti.zero.cells=#[ti.zero]) (hx:ov E x=some (.int k iv)) (hiv:iv=m) (hy:ov E y=some (.int k' jv)) (hjv:jv=m) (hm:m * ti.bytes≤1000000000000) (hm2:m≤1000000000000) :
  OpR P n ⟨d,.makeSlice t x y,ty,pos,af,g⟩ E w (fun v w'=>v=.slice (some ⟨w.heap.size,0,none⟩) m m∧Blk et w' w.heap.size (List.replicate m ti.zero)∧Ext w w'∧w'.heap.size=w.heap.size+1):=by
 intro a ha Q K hK
 subst hiv hjv
 obtain ⟨_,inf,hi,hsize,hby,hzero⟩:=hT et ti hte
 have e1:=ha.eval hx
 have e2:=ha.eval hy
 have hw:IntKind.i64.wrap (m:Int)=m:=i64_id (by omega) (by omega)
 have hc1:¬ ((decide (((m:Nat):Int)<0) || decide (((ti.bytes:Nat):Int) * ((m:Nat):Int) > 2 ^ 48) || decide (((m:Nat):Int)<0) || decide (((m:Nat):Int) > ((m:Nat):Int)))=true):=by
  have:((ti.bytes:Nat):Int) * ((m:Nat):Int)=((m * ti.bytes:Nat):Int):=by rw [Int.mul_comm];simp
  simp only [Bool.or_eq_true,decide_eq_true_eq,this]
  omega
 have hroom:¬ (m * ti.bytes > roomBytes):=by unfold roomBytes;omega
 have hcells:((Array.range (m * 1)).map (fun x=>(#[ti.zero]:Array Value)[x % 1]!))=(List.replicate m ti.zero).toArray:=by
  apply Array.ext
  ·simp
  ·intro i h1 h2
   simp [Nat.mod_one]
 have hrun:(execOp a.eval ⟨d,.makeSlice t x y,ty,pos,af,g⟩).run P w=.ok (.value (.slice (some ⟨w.heap.size,0,none⟩) m m)) (w.alloc (.cells (List.replicate m ti.zero).toArray et (0,0))):=by
  generalize a.eval=ρ at e1 e2
  have hmk:(Instr.makeSlice t (.int k m) (.int k' m)).run P w=.ok (.slice (some ⟨w.heap.size,0,none⟩) m m) (w.alloc (.cells (List.replicate m ti.zero).toArray et (0,0))):=by
   unfold Instr.makeSlice
   simp only [Sem.run_bind,run_underlying_T hT ht,Result.andThen_ok,asInt,asIntOf,Sem.run_pure,run_typeInfo hi,hby,hw]
   rw [if_neg hc1]
   simp only [Sem.run_bind,Sem.run_pure,Result.andThen_ok,Int.toNat_natCast,askRoom,if_neg hroom,run_sizeOf_T hT hte,hsz]
   by_cases h0:m=0
   ·subst h0
    simp [newRow,go_sem]
   ·rw [if_neg (by omega)]
    simp only [Sem.run_bind,zeroValue,run_typeInfo hi,Sem.run_pure,Result.andThen_ok,hzero,hz,List.size_toArray,List.length_cons,List.length_nil,Nat.zero_add,hcells]
    simp [newRow,go_sem]
  simp only [execOp,e1,e2,Sem.run_bind,hmk,Result.andThen_ok,Sem.run_pure]
 unfold Oper.wp
 rw [hrun,Oper.upon_value]
 refine hK _ _ ⟨rfl,?_,ext_alloc _ _,size_alloc1 _ _⟩
 have:=blk_alloc w et (List.replicate m ti.zero).toArray
 simpa using this
end
end Go.Qf
namespace Go.Qf
open Go Go.RowKit
structure IsFn (P:Program) (f:FuncId) (fn:Func):Prop where
 func:P.funcs[f]?=some fn
 name : (fn.name == "runtime.NumGoroutine") = false
 body:fn.body.isNone=false
def ovs (E:List (Nat×Value)):List Operand→Option (List Value)
 | []=>some []
 | x::r=>match ov E x,ovs E r with
  | some v,some vs=>some (v::vs)
  | _,_=>none
theorem ovs_map {n:Nat} {E:List (Nat×Value)} {a:Act} (ha:Fits n E a):∀ (xs:List Operand) (vs:List Value),ovs E xs=some vs→xs.map a.eval=vs:=by
 intro xs
 induction xs with
 | nil=>intro vs h;simp only [ovs,Option.some.injEq] at h;subst h;rfl
 | cons x r ih =>
  intro vs h
  simp only [ovs] at h
  split at h
  ·rename_i v us hv hr
   simp only [Option.some.injEq] at h
   subst h
   simp only [List.map_cons,ha.eval hv,ih us hr]
  ·cases h
section
variable {P:Program} {T:List (Nat×TI)} {n:Nat} {E:List (Nat×Value)} {w:World}
theorem OpR.call {f:FuncId} {fn:Func} (hF:IsFn P f fn) {d:Option Tmp} {args:Array Operand} {tys:Array TypeId} {ty:TypeId} {pos:String} {af:Array Edge} {g:Option (Nat×Bool)} {vs:List Value} {Φ:Value→World→Prop}
  (hargs:ovs E args.toList=some vs) (hc:Calls P f vs.toArray w (Ret Φ)) :
  OpR P n ⟨d,.call ⟨.value (.func f),args,tys⟩,ty,pos,af,g⟩ E w Φ:=by
 intro a ha Q K hK
 have hm:=ovs_map ha _ _ hargs
 have hA:args.map a.eval=vs.toArray:=by
  rw [← hm]
  apply Array.toList_inj.1
  simp
 have hev:a.eval (.func f)=.func (.func f) #[] #[]:=rfl
 have hrun:(execOp a.eval ⟨d,.call ⟨.value (.func f),args,tys⟩,ty,pos,af,g⟩).run P w=.ok (.enter f vs.toArray) w:=by
  simp only [execOp,resolve,hev,Deferred.ofValue,hA,Sem.run_bind,Sem.run_pure,Result.andThen_ok,invoke,callFunc]
  simp only [Array.append_empty,Array.empty_append]
  have hp:(program).run P w=.ok P w:=by simp [go_sem]
  simp only [hp,Result.andThen_ok,hF.func,hF.name,hF.body,Bool.false_eq_true,if_false,Sem.run_pure]
 unfold Oper.wp
 rw [hrun,Oper.upon_enter]
 refine hc.mono ?_
 rintro e w' ⟨v,rfl,hv⟩
 exact hK v w' hv
theorem addr_add (b off l:Nat):Addr.add ⟨b,off,none⟩ l=⟨b,off+l,none⟩:=by
 unfold Addr.add
 split
 ·rename_i h0;subst h0;rfl
 ·rfl
theorem RunsTo.sliceHi (hT:TblOk P T) {d:Option Tmp} {t:TypeId} {x y:Operand} {ty:TypeId} {pos:String} {af:Array Edge} {g:Option (Nat×Bool)} {et:TypeId} {s1 s2:Nat} {z:Value} {ti:TI} {p:Option Addr} {len cap:Nat} {k:IntKind} {iv:Int}
  (ht:lookT T t=some ⟨.slice et,s1,s2,z⟩) (hte:lookT T et=some ti) (hx:ov E x=some (.slice p len cap)) (hy:ov E y=some (.int k iv)) (h0:0≤iv) (h1:iv≤cap) :
  RunsTo P n ⟨d,.slice t x none (some y) none,ty,pos,af,g⟩ E w (.slice p iv.toNat cap):=by
 intro a ha
 have e1:=ha.eval hx
 have e2:=ha.eval hy
 generalize a.eval=ρ at e1 e2
 simp [execOp,Instr.sliceAt,Instr.slice,Instr.sliceBounds,Instr.sliceBound,e1,e2,run_underlying_T hT ht,run_sizeOf_T hT hte,h0,h1,asIntOf,go_sem]
theorem RunsTo.sliceLoHi (hT:TblOk P T) {d:Option Tmp} {t:TypeId} {x u y:Operand} {ty:TypeId} {pos:String} {af:Array Edge} {g:Option (Nat×Bool)} {et:TypeId} {s1 s2:Nat} {z:Value} {ti:TI} {b off len cap:Nat} {k k':IntKind} {iv jv:Int}
  (ht:lookT T t=some ⟨.slice et,s1,s2,z⟩) (hte:lookT T et=some ti) (hsz:ti.size=1) (hx:ov E x=some (.slice (some ⟨b,off,none⟩) len cap)) (hu:ov E u=some (.int k' jv)) (hy:ov E y=some (.int k iv)) (h0:0≤jv) (h1:jv≤iv) (h2:iv≤cap) (h3:jv<cap) :
  RunsTo P n ⟨d,.slice t x (some u) (some y) none,ty,pos,af,g⟩ E w (.slice (some ⟨b,off+jv.toNat,none⟩) (iv.toNat - jv.toNat) (cap - jv.toNat)):=by
 intro a ha
 have e1:=ha.eval hx
 have e2:=ha.eval hy
 have e3:=ha.eval hu
 generalize a.eval=ρ at e1 e2 e3
 have hne:¬ cap=jv.toNat:=by omega
 have hi0:0≤iv:=by omega
 have hle:jv≤((iv.toNat:Nat):Int):=by omega
 simp [execOp,Instr.sliceAt,Instr.slice,Instr.sliceBounds,Instr.sliceBound,e1,e2,e3,run_underlying_T hT ht,run_sizeOf_T hT hte,hsz,h0,h2,hi0,asIntOf,hne,addr_add,Int.max_eq_left hi0,h1,go_sem]
theorem run_append_from_nil {base:Nat} {t e ty:TypeId} {v:Value} {cs:List Value} (ht:P.underlying t=some (.slice e)) {inf:TypeInfo} (hi:P.info? e=some inf) (hown:Own base e w v cs) (m c:Nat) (hm:m=0) :
  (Builtin.append_ #[t,t] ty #[v,.slice none m c]).run P w=.ok v w:=by
 subst hm
 rcases hown.2 with ⟨hv,h0⟩ | ⟨g,cap,cur,hv,_,hg,hn,_,hs,ht2⟩
 ·rw [hv]
  simp [Builtin.append_,run_underlying ht,sizeOf,typeInfo,hi,Builtin.lenOf,Builtin.firstCells,go_sem]
 ·rw [hv]
  simp [Builtin.append_,run_underlying ht,sizeOf,typeInfo,hi,Builtin.lenOf,Builtin.firstCells,hn,storeCells,go_sem]
theorem grownBy_refl (w:World) (r:Option Nat):w.grownBy w r:=⟨rfl,rfl,rfl,Nat.le_refl _,fun _ _ _=>rfl⟩
theorem Ext.grown {w0 w':World} {base:Nat} {e:TypeId} {v:Value} {cs:List Value} (h:Ext w0 w) (hown:Own base e w v cs) (hb:w0.heap.size≤base) (hg:w.grownBy w' v.ownBlock):Ext w0 w':=by
 refine ⟨hg.os.trans h.os,hg.tape.trans h.tape,hg.output.trans h.output,Nat.le_trans h.size hg.size,fun k hk=>?_⟩
 refine (hg.block k (Nat.lt_of_lt_of_le hk h.size) ?_).trans (h.block k hk)
 intro he
 have:=(hown.lt k he.symm).1
 omega
theorem OpR.append (hT:TblOk P T) {d:Option Tmp} {t:TypeId} {s x:Operand} {ty:TypeId} {pos:String} {af:Array Edge} {g:Option (Nat×Bool)} {et:TypeId} {s1 s2:Nat} {z:Value} {ti:TI} {base:Nat} {v u:Value} {cs ds:List Value}
  (ht:lookT T t=some ⟨.slice et,s1,s2,z⟩) (hte:lookT T et=some ti) (hsz:ti.size=1) (hz:ti.zero.cells.size=1) (hs:ov E s=some v) (hx:ov E x=some u) (hown:Own base et w v cs) (hr:Row et w u ds) (h1:∀ c ∈ ds,c.oneCell'=true)
  (hlen:cs.length+ds.length≤1000000000000) (hbytes:(cs.length+ds.length) * ti.bytes≤1000000000000) (hbase:base≤w.heap.size) :
  OpR P n ⟨d,.call ⟨.builtin .append,#[s,x],#[t,t]⟩,ty,pos,af,g⟩ E w (fun v' w'=>Own base et w' v' (cs++ds)∧w.grownBy w' v.ownBlock∧(v'=.slice none 0 0↔v=.slice none 0 0∧ds=[])):=by
 intro a ha Q K hK
 obtain ⟨hu1,_⟩:=hT t _ ht
 obtain ⟨_,inf,hi,hsize,hby,hzero⟩:=hT et ti hte
 have e1:=ha.eval hs
 have e2:=ha.eval hx
 have key:∃ v' w',(Builtin.append_ #[t,t] ty #[v,u]).run P w=.ok v' w'∧Own base et w' v' (cs++ds)∧w.grownBy w' v.ownBlock∧(v'=.slice none 0 0↔v=.slice none 0 0∧ds=[]):=by
  obtain ⟨p,cap,hu,hle,hp0,hc⟩:=hr
  cases p with
  | none =>
   have hcap:=hp0 rfl
   have h0:ds=[]:=List.eq_nil_of_length_eq_zero (by omega)
   subst h0 hu
   refine ⟨v,w,run_append_from_nil hu1 hi hown _ _ rfl,by simpa using hown,grownBy_refl _ _,by simp⟩
  | some ad =>
   subst hu
   obtain ⟨v',w',h2,h3,h4,h5⟩:=run_append_own (P:=P) w base t ty et inf ti.zero 1 ti.bytes hu1 hi hzero (hsize.trans hsz) hby hz (by decide) v cs.length cs hown ad ds.length cap ds (by simp)
    (fun j c hj=>hc ad rfl j c hj) h1 (by unfold maxLen;omega) (by omega) hbase
   refine ⟨v',w',h2,by unfold Own;rw [List.length_append];exact h3,h4,?_⟩
   rw [h5]
   simp
 obtain ⟨v',w',h2,h3,h4,h5⟩:=key
 have hrun:(execOp a.eval ⟨d,.call ⟨.builtin .append,#[s,x],#[t,t]⟩,ty,pos,af,g⟩).run P w=.ok (.value v') w':=by
  generalize a.eval=ρ at e1 e2
  simp only [execOp,resolve,invoke,builtin,Sem.run_bind,Sem.run_pure,Result.andThen_ok,List.map_toArray,List.map_cons,List.map_nil,e1,e2,h2]
 unfold Oper.wp
 rw [hrun,Oper.upon_value]
 exact hK v' w' ⟨h3,h4,h5⟩
theorem OpR.single (hT:TblOk P T) {d:Option Tmp} {t:TypeId} {x:Operand} {ty:TypeId} {pos:String} {af:Array Edge} {g:Option (Nat×Bool)} {et:TypeId} {s1 s2:Nat} {z:Value} {ti:TI} {k:IntKind} {m:Int}
  (ht:lookT T t=some ⟨.slice et,s1,s2,z⟩) (hte:lookT T et=some ti) (hsz:ti.size=1) (hx:ov E x=some (.int k m)) :
  OpR P n ⟨d,.buildSlice t 1 #[(0,x)],ty,pos,af,g⟩ E w (fun u w'=>u=.slice (some ⟨w.heap.size,0,none⟩) 1 1∧Blk et w' w.heap.size [.int k m]∧Ext w w'∧w'.heap.size=w.heap.size+1):=by
 intro a ha Q K hK
 obtain ⟨_,inf,hi,hsize,hby,hzero⟩:=hT et ti hte
 have e1:=ha.eval hx
 have hrun:(execOp a.eval ⟨d,.buildSlice t 1 #[(0,x)],ty,pos,af,g⟩).run P w=.ok (.value (.slice (some ⟨w.heap.size,0,none⟩) 1 1)) (w.alloc (.cells #[.int k m] et (0,0))):=by
  generalize a.eval=ρ at e1
  simp [execOp,Instr.buildSlice,e1,run_underlying_T hT ht,run_sizeOf_T hT hte,hsz,zeroValue,run_typeInfo hi,hzero,Instr.fill,newRow,go_sem]
 unfold Oper.wp
 rw [hrun,Oper.upon_value]
 exact hK _ _ ⟨rfl,blk_alloc _ _ _,ext_alloc _ _,size_alloc1 _ _⟩
end
theorem Blk.row {e:TypeId} {w:World} {b off len cap:Nat} {C cs:List Value} (h:Blk e w b C) (hlen:len=cs.length) (hl:len≤cap) (_hc:off+cap≤C.length) (hcs:(C.drop off).take len=cs):Row e w (.slice (some ⟨b,off,none⟩) len cap) cs:=by
 subst hlen
 refine ⟨_,cap,rfl,hl,fun hp=>(by cases hp),fun a ha i c hi=>?_⟩
 cases ha
 have hi2:=(List.getElem?_eq_some_iff.1 hi).1
 rw [addr_add]
 refine h.cell ?_
 have:cs[i]?=((C.drop off).take cs.length)[i]?:=by rw [hcs]
 rw [← hi,this,List.getElem?_take_of_lt hi2]
 simp
theorem Blk.own {e:TypeId} {w:World} {b len base:Nat} {C:List Value} (h:Blk e w b C) (hl:len=C.length) (hb:base≤b) (hm:len≤1000000000000):Own base e w (.slice (some ⟨b,0,none⟩) len len) C:=by
 subst hl
 exact ⟨by simp,.inr ⟨b,C.length,C.toArray,rfl,hb,h,Nat.le_refl _,by unfold maxLen;omega,by simp,by simp⟩⟩
theorem Own.nil (base:Nat) (e:TypeId) (w:World):Own base e w (.slice none 0 0) []:=World.ownsRow_nil w base e 1
section lists
variable {P:Program} {T:List (Nat×TI)} {n:Nat} {E:List (Nat×Value)} {w:World} {Q:Exit→Act→World→Prop} {ops:Array Oper} {rest:List Oper}
theorem StL.elem (hT:TblOk P T) {d1 d2:Nat} {t u:TypeId} {x i:Operand} {ty ty2:TypeId} {pos pos2:String} {af af2:Array Edge} {g g2:Option (Nat×Bool)} {et:TypeId} {s1 s2:Nat} {z:Value} {ti:TI} {sv:Value} {cs:List Value} {k:IntKind} {iv:Int} (j:Nat) (c:Value)
  (hr:Row et w sv cs) (hc:cs[j]?=some c) (hj:iv=j)
  (ht:lookT T t=some ⟨.slice et,s1,s2,z⟩) (hte:lookT T et=some ti) (hsz:ti.size=1) (hag:isAggD ti.desc=false) (hu:u=et)
  (hx:ov E x=some sv) (hi:ov E i=some (.int k iv)) (hg:wantE ops E g=some true) (hn:Nat.blt d1 n=true) (hn2:Nat.blt d2 n=true) (hg2:∀ p,wantE ops ((d1,p)::E) g2=some true)
  (next:∀ p,StL P n ((d2,c)::(d1,p)::E) w ops rest Q) :
  StL P n E w ops (⟨some d1,.indexAddr t x i,ty,pos,af,g⟩::⟨some d2,.load u (.tmp d1),ty2,pos2,af2,g2⟩::rest) Q:=by
 obtain ⟨a,cap,hsv,hcell⟩:=hr.get hc
 have hlt:j<cs.length:=(List.getElem?_eq_some_iff.1 hc).1
 subst hu
 rw [hsv] at hx
 refine StL.step rfl hg hn (RunsTo.indexAddr hT ht hte hsz hx hi (by omega) (by omega)).op ?_
 rintro p w' ⟨rfl,rfl⟩
 rw [show iv.toNat=j from by omega]
 have hl:ov ((d1,.pointer (some (a.add j)))::E) (.tmp d1)=some (.pointer (some (a.add j))):=look_cons_self _ _ _
 refine StL.step rfl (hg2 _) hn2 (RunsTo.load hT hte hag hl hcell).op ?_
 rintro c' w' ⟨rfl,rfl⟩
 exact next _
theorem StL.put (hT:TblOk P T) {d1:Nat} {t u:TypeId} {x i y:Operand} {ty ty2:TypeId} {pos pos2:String} {af af2:Array Edge} {g g2:Option (Nat×Bool)} {et:TypeId} {s1 s2:Nat} {z:Value} {ti:TI} {b off len cap:Nat} {C:List Value} {k:IntKind} {iv:Int} {v:Value} (j:Nat)
  (hb:Blk et w b C) (hj:iv=j) (hlt:j<len) (hC:off+len≤C.length)
  (ht:lookT T t=some ⟨.slice et,s1,s2,z⟩) (hte:lookT T et=some ti) (hsz:ti.size=1) (hu:u=et)
  (hx:ov E x=some (.slice (some ⟨b,off,none⟩) len cap)) (hi:ov E i=some (.int k iv)) (hg:wantE ops E g=some true) (hn:Nat.blt d1 n=true) (hg2:∀ p,wantE ops ((d1,p)::E) g2=some true)
  (hy:∀ p,ov ((d1,p)::E) y=some v) (hv:v.cells=#[v]) (hv1:v.oneCell'=true)
  (next:∀ p w',Blk et w' b (C.set (off+j) v)→Upd b w w'→StL P n ((d1,p)::E) w' ops rest Q) :
  StL P n E w ops (⟨some d1,.indexAddr t x i,ty,pos,af,g⟩::⟨none,.store u (.tmp d1) y,ty2,pos2,af2,g2⟩::rest) Q:=by
 subst hu
 refine StL.step rfl hg hn (RunsTo.indexAddr hT ht hte hsz hx hi (by omega) (by omega)).op ?_
 rintro p w' ⟨rfl,rfl⟩
 rw [show iv.toNat=j from by omega,addr_add]
 have hl:ov ((d1,.pointer (some ⟨b,off+j,none⟩))::E) (.tmp d1)=some (.pointer (some ⟨b,off+j,none⟩)):=look_cons_self _ _ _
 refine StL.step0 rfl (hg2 _) (OpR.store hT (vs:=[v]) hte hl (hy _) (by rw [hv]) (by simp [hsz]) hb (by simp;omega) (by simpa using hv1)) ?_
 rintro _ w' ⟨h1,h2⟩
 exact next _ w' h1 h2
end lists
section cut
variable {P:Program} {n:Nat} {E:List (Nat×Value)} {w:World} {Q:Exit→Act→World→Prop}
def Met {α:Type} (n:Nat) (Em:α→List (Nat×Value)) (I:α→World→Prop) (a:Act) (w:World):Prop:=∃ g,Fits n (Em g) a∧I g w
theorem St.cut {α:Type} (Em:α→List (Nat×Value)) (I:α→World→Prop) {x y:Code} (hx:St P n E w x (Exit.then (Met n Em I) Q)) (hy:∀ g w,I g w→St P n (Em g) w y Q):St P n E w (.seq x y) Q:=by
 intro a ha
 refine wp_seq (wp_mono (hx a ha) ?_)
 intro e a2 w2 hq
 cases e with
 | normal =>
  obtain ⟨g,hf,hI⟩:=hq
  exact hy g w2 hI a2 hf
 | exit id=>exact hq
 | goto l=>exact hq
 | ret=>exact hq
 | panic ch=>exact hq
 | outgrown=>exact hq
theorem Out.met {α:Type} {Em:α→List (Nat×Value)} {I:α→World→Prop} (g:α) (hs:Sub (Em g) E) (hI:I g w):Out n E w .normal (Exit.then (Met n Em I) Q):=fun _ ha=>⟨g,ha.sub hs,hI⟩
end cut
end Go.Qf
namespace Go.Qf
open Go Go.RowKit Go.Proofs
def TB:List (Nat×TI) :=
 [(139,⟨.int .u32,1,4,.int .u32 0⟩),
  (29,⟨.slice 139,1,24,.slice none 0 0⟩),
  (3,⟨.int .i64,1,8,.int .i64 0⟩),
  (136,⟨.int .u64,1,8,.int .u64 0⟩),
  (4,⟨.bool,1,1,.bool false⟩),
  (31, ⟨.struct #[{ name := "Neg", type := 4, offset := 0, embedded := false, tag := "", pkgPath := "", byteOffset := 0 }, { name := "Mag", type := 29, offset := 1, embedded := false, tag := "", pkgPath := "", byteOffset := 8 }], 2, 32, .agg #[.bool false, .slice none 0 0]⟩),
  (2,⟨.int .i64,1,8,.int .i64 0⟩),
  (9,⟨.string,1,16,.string ByteArray.empty⟩),
  (5,⟨.int .u8,1,1,.int .u8 0⟩),
  (174,⟨.slice 5,1,24,.slice none 0 0⟩),
  (21,⟨.int .i32,1,4,.int .i32 0⟩),
  (33, ⟨.struct #[{ name := "Num", type := 31, offset := 0, embedded := false, tag := "", pkgPath := "", byteOffset := 0 }, { name := "Den", type := 31, offset := 2, embedded := false, tag := "", pkgPath := "", byteOffset := 32 }], 4, 64, .agg #[.bool false, .slice none 0 0, .bool false, .slice none 0 0]⟩),
  (61,⟨.slice 3,1,24,.slice none 0 0⟩),
  (27,⟨.slice 2,1,24,.slice none 0 0⟩),
  (25,⟨.slice 27,1,24,.slice none 0 0⟩),
  (45,⟨.slice 31,1,24,.slice none 0 0⟩),
  (68,⟨.slice 45,1,24,.slice none 0 0⟩),
  (44,⟨.slice 68,1,24,.slice none 0 0⟩),
  (150,⟨.int .i8,1,1,.int .i8 0⟩),
  (22,⟨.slice 150,1,24,.slice none 0 0⟩),
  (24, ⟨.struct #[{ name := "Dim", type := 5, offset := 0, embedded := false, tag := "", pkgPath := "", byteOffset := 0 }, { name := "Kind", type := 5, offset := 1, embedded := false, tag := "", pkgPath := "", byteOffset := 1 }, { name := "Numbers", type := 22, offset := 2, embedded := false, tag := "", pkgPath := "", byteOffset := 8 }, { name := "Base", type := 22, offset := 3, embedded := false, tag := "", pkgPath := "", byteOffset := 32 }], 4, 56, .agg #[.int .u8 0, .int .u8 0, .slice none 0 0, .slice none 0 0]⟩),
  (103, ⟨.struct #[{ name := "L", type := 22, offset := 0, embedded := false, tag := "", pkgPath := "", byteOffset := 0 }, { name := "At", type := 3, offset := 1, embedded := false, tag := "", pkgPath := "", byteOffset := 24 }], 2, 32, .agg #[.slice none 0 0, .int .i64 0]⟩),
  (47, ⟨.struct #[{ name := "N", type := 3, offset := 0, embedded := false, tag := "", pkgPath := "", byteOffset := 0 }, { name := "B", type := 44, offset := 1, embedded := false, tag := "", pkgPath := "", byteOffset := 8 }, { name := "D", type := 45, offset := 2, embedded := false, tag := "", pkgPath := "", byteOffset := 32 }], 3, 56, .agg #[.int .i64 0, .slice none 0 0, .slice none 0 0]⟩),
  (75, ⟨.struct #[{ name := "stages", type := 44, offset := 0, embedded := false, tag := "", pkgPath := "quadform/schur", byteOffset := 0 }, { name := "minors", type := 45, offset := 1, embedded := false, tag := "", pkgPath := "quadform/schur", byteOffset := 24 }], 2, 48, .agg #[.slice none 0 0, .slice none 0 0]⟩),
  (155, ⟨.struct #[{ name := "bound", type := 2, offset := 0, embedded := false, tag := "", pkgPath := "quadform/schur", byteOffset := 0 }, { name := "minor", type := 27, offset := 1, embedded := false, tag := "", pkgPath := "quadform/schur", byteOffset := 8 }, { name := "lambda", type := 25, offset := 2, embedded := false, tag := "", pkgPath := "quadform/schur", byteOffset := 32 }, { name := "x", type := 27, offset := 3, embedded := false, tag := "", pkgPath := "quadform/schur", byteOffset := 56 }], 4, 80, .agg #[.int .i64 0, .slice none 0 0, .slice none 0 0, .slice none 0 0]⟩)]
theorem TBok:TblOk Tryz.prog TB:=by
 unfold TB
 refine TblOk.cons Tryz.underlying139 (by kernel_rfl) ?_
 refine TblOk.cons Tryz.underlying29 (by kernel_rfl) ?_
 refine TblOk.cons Tryz.underlying3 (by kernel_rfl) ?_
 refine TblOk.cons Tryz.underlying136 (by kernel_rfl) ?_
 refine TblOk.cons Tryz.underlying4 (by kernel_rfl) ?_
 refine TblOk.cons Tryz.underlying31 (by kernel_rfl) ?_
 refine TblOk.cons Tryz.underlying2 (by kernel_rfl) ?_
 refine TblOk.cons Tryz.underlying9 (by kernel_rfl) ?_
 refine TblOk.cons Tryz.underlying5 (by kernel_rfl) ?_
 refine TblOk.cons Tryz.underlying174 (by kernel_rfl) ?_
 refine TblOk.cons Tryz.underlying21 (by kernel_rfl) ?_
 refine TblOk.cons Tryz.underlying33 (by kernel_rfl) ?_
 refine TblOk.cons Tryz.underlying61 (by kernel_rfl) ?_
 refine TblOk.cons Tryz.underlying27 (by kernel_rfl) ?_
 refine TblOk.cons Tryz.underlying25 (by kernel_rfl) ?_
 refine TblOk.cons Tryz.underlying45 (by kernel_rfl) ?_
 refine TblOk.cons Tryz.underlying68 (by kernel_rfl) ?_
 refine TblOk.cons Tryz.underlying44 (by kernel_rfl) ?_
 refine TblOk.cons Tryz.underlying150 (by kernel_rfl) ?_
 refine TblOk.cons Tryz.underlying22 (by kernel_rfl) ?_
 refine TblOk.cons Tryz.underlying24 (by kernel_rfl) ?_
 refine TblOk.cons Tryz.underlying103 (by kernel_rfl) ?_
 refine TblOk.cons Tryz.underlying47 (by kernel_rfl) ?_
 refine TblOk.cons Tryz.underlying75 (by kernel_rfl) ?_
 refine TblOk.cons Tryz.underlying155 (by kernel_rfl) ?_
 exact TblOk.nil _
theorem StL.a {n:Nat} {w:World} {ops:Array Oper} {Q:Exit→Act→World→Prop} (m:Nat) {E E':List (Nat×Value)} {l l':List Oper} {d:Nat} {v:Value} (v':Value) (h:runPure TB n ops m E l=((d,v)::E',l')) (hv:v=v') (hn:StL Tryz.prog n ((d,v')::E') w ops l' Q):StL Tryz.prog n E w ops l Q:=StL.as TBok m v' h hv hn
theorem RunsTo.ia {n:Nat} {E:List (Nat×Value)} {w:World} {d:Option Tmp} {t:TypeId} {x i:Operand} {ty:TypeId} {pos:String} {af:Array Edge} {g:Option (Nat×Bool)} {et:TypeId} {s1 s2:Nat} {z:Value} {et1:TI} {a:Addr} {len cap:Nat} {k:IntKind} {iv:Int}
  (ht:lookT TB t=some ⟨.slice et,s1,s2,z⟩:=by exact rfl) (hte:lookT TB et=some et1:=by exact rfl) (hsz:et1.size=1:=by exact rfl) (hx:ov E x=some (.slice (some a) len cap):=by exact rfl) (hi:ov E i=some (.int k iv):=by exact rfl) (h0:0≤iv:=by omega) (h1:iv<len:=by omega) :
  RunsTo Tryz.prog n ⟨d,.indexAddr t x i,ty,pos,af,g⟩ E w (.pointer (some (a.add iv.toNat))):=RunsTo.indexAddr TBok ht hte hsz hx hi h0 h1
end Go.Qf
namespace Go.Qf
def val:List Nat→Nat
 | []=>0
 | x::r=>x+4294967296 * val r
def limbsF:Nat→Nat→List Nat
 | 0,_=>[]
 | f+1,m=>if m=0 then [] else m % 4294967296::limbsF f (m / 4294967296)
def limbs (m:Nat):List Nat:=limbsF m m
theorem limbsF_enough:∀ (f g m:Nat),m≤f→m≤g→limbsF f m=limbsF g m:=by
 intro f
 induction f with
 | zero =>
      intro g m h _;have:m=0:=by omega
      subst this;cases g <;> simp [limbsF]
 | succ f ih =>
  intro g m hf hg
  cases g with
  | zero =>
       have:m=0:=by omega
       subst this;simp [limbsF]
  | succ g =>
   simp only [limbsF]
   split
   ·rfl
   ·rw [ih g (m / 4294967296) (by omega) (by omega)]
theorem limbs_zero:limbs 0=[]:=rfl
theorem limbs_eq (m:Nat) (h:m≠0):limbs m=m % 4294967296::limbs (m / 4294967296):=by
 unfold limbs
 cases m with
 | zero=>exact absurd rfl h
 | succ k =>
  simp only [limbsF,if_neg h]
  rw [limbsF_enough k ((k+1) / 4294967296) ((k+1) / 4294967296) (by omega) (by omega)]
def Lim (xs:List Nat):Prop:=∀ x ∈ xs,x<4294967296
theorem Lim.nil:Lim []:=fun _ h=>by cases h
theorem Lim.cons {x:Nat} {r:List Nat}:Lim (x::r)↔x<4294967296∧Lim r:=by simp [Lim]
theorem Lim.get {xs:List Nat} (h:Lim xs) {i x:Nat} (hx:xs[i]?=some x):x<4294967296:=h x (List.mem_of_getElem? hx)
theorem Lim.take {xs:List Nat} (h:Lim xs) (k:Nat):Lim (xs.take k):=fun x hx=>h x (List.mem_of_mem_take hx)
theorem Lim.drop {xs:List Nat} (h:Lim xs) (k:Nat):Lim (xs.drop k):=fun x hx=>h x (List.mem_of_mem_drop hx)
theorem Lim.append {xs ys:List Nat} (h:Lim xs) (k:Lim ys):Lim (xs++ys):=fun x hx=>by
 rcases List.mem_append.1 hx with h1 | h1
 ·exact h x h1
 ·exact k x h1
theorem Lim.set {xs:List Nat} (h:Lim xs) (i:Nat) {y:Nat} (hy:y<4294967296):Lim (xs.set i y):=fun x hx=>by
 rcases List.mem_or_eq_of_mem_set hx with h1 | h1
 ·exact h x h1
 ·rw [h1];exact hy
theorem val_limbs:∀ m,val (limbs m)=m:=by
 intro m
 induction m using Nat.strongRecOn with
 | _ m ih =>
  by_cases h:m=0
  ·subst h;rfl
  ·rw [limbs_eq m h]
   simp only [val]
   rw [ih (m / 4294967296) (by omega)]
   omega
theorem lim_limbs:∀ m,Lim (limbs m):=by
 intro m
 induction m using Nat.strongRecOn with
 | _ m ih =>
  by_cases h:m=0
  ·subst h;exact Lim.nil
  ·rw [limbs_eq m h]
   exact Lim.cons.2 ⟨by omega,ih (m / 4294967296) (by omega)⟩
theorem limbs_eq_nil {m:Nat}:limbs m=[]↔m=0:=by
 constructor
 ·intro h
  have:=val_limbs m
  rw [h] at this
  exact this.symm
 ·intro h;subst h;rfl
theorem val_append (xs ys:List Nat):val (xs++ys)=val xs+4294967296 ^ xs.length * val ys:=by
 induction xs with
 | nil=>simp [val]
 | cons x r ih =>
  simp only [List.cons_append,val,ih,List.length_cons,Nat.pow_succ,Nat.mul_add]
  rw [Nat.add_assoc]
  congr 2
  rw [← Nat.mul_assoc,Nat.mul_comm (4294967296 ^ r.length)]
theorem val_replicate_zero (k:Nat):val (List.replicate k 0)=0:=by
 induction k with
 | zero=>rfl
 | succ k ih=>simp [List.replicate_succ,val,ih]
theorem val_lt (xs:List Nat) (h:Lim xs):val xs<4294967296 ^ xs.length:=by
 induction xs with
 | nil=>simp [val]
 | cons x r ih =>
  obtain ⟨h1,h2⟩:=Lim.cons.1 h
  have:=ih h2
  simp only [val,List.length_cons,Nat.pow_succ]
  have h3:4294967296 * (val r+1)≤4294967296 * 4294967296 ^ r.length:=Nat.mul_le_mul_left _ this
  rw [Nat.mul_comm (4294967296 ^ r.length)]
  omega
theorem limbs_val_snoc (xs:List Nat) (x:Nat) (h:Lim (xs++[x])) (hx:x≠0):limbs (val (xs++[x]))=xs++[x]:=by
 induction xs with
 | nil =>
  have h1:x<4294967296:=h x (by simp)
  have hv:val ([]++[x])=x:=by simp [val]
  rw [hv,limbs_eq x hx]
  have h2:x / 4294967296=0:=Nat.div_eq_of_lt h1
  rw [h2,limbs_zero,Nat.mod_eq_of_lt h1]
  rfl
 | cons y r ih =>
  obtain ⟨h1,h2⟩:=Lim.cons.1 h
  have:=ih h2
  have hpos:val (r++[x])≠0:=by
   intro e
   rw [e,limbs_zero] at this
   simp at this
  simp only [List.cons_append,val]
  rw [limbs_eq _ (by omega)]
  have e1:(y+4294967296 * val (r++[x])) % 4294967296=y:=by omega
  have e2:(y+4294967296 * val (r++[x])) / 4294967296=val (r++[x]):=by omega
  rw [e1,e2,this]
theorem limbs_length_le (xs:List Nat) (h:Lim xs):(limbs (val xs)).length≤xs.length:=by
 induction xs with
 | nil=>simp [val,limbs_zero]
 | cons x r ih =>
  obtain ⟨h1,h2⟩:=Lim.cons.1 h
  have:=ih h2
  by_cases h0:val (x::r)=0
  ·rw [h0];simp [limbs_zero]
  ·rw [limbs_eq _ h0]
   have e2:val (x::r) / 4294967296=val r:=by simp only [val];omega
   rw [e2]
   simp;omega
theorem limbs_take (xs:List Nat) (h:Lim xs) (k:Nat) (hz:∀ j,k≤j→j<xs.length→xs[j]?=some 0) (hk:k≤xs.length) (hl:k=0∨∃ x,xs[k - 1]?=some x∧x≠0):limbs (val xs)=xs.take k:=by
 have hsplit:xs=xs.take k++List.replicate (xs.length - k) 0:=by
  apply List.ext_getElem?
  intro i
  by_cases hi:i<k
  ·rw [List.getElem?_append_left (by simp;omega),List.getElem?_take_of_lt hi]
  ·rw [List.getElem?_append_right (by simp;omega)]
   have e:(xs.take k).length=k:=by simp;omega
   rw [e]
   by_cases hi2:i<xs.length
   ·rw [hz i (by omega) hi2,List.getElem?_replicate,if_pos (by omega)]
   ·rw [List.getElem?_eq_none (by omega),List.getElem?_replicate,if_neg (by omega)]
 have hv:val xs=val (xs.take k):=by
  conv=>lhs;rw [hsplit]
  rw [val_append,val_replicate_zero]
  simp
 rw [hv]
 rcases hl with h0 | ⟨x,hx,hne⟩
 ·subst h0;simp [val,limbs_zero]
 ·have hpos:0<k:=by
   rcases Nat.eq_zero_or_pos k with h0 | h0
   ·subst h0
    simp at hx
    have hz0:=hz 0 (by omega) (by
     cases xs with
     | nil=>simp at hx
     | cons a b=>simp)
    rw [hz0] at hx
    cases hx
    exact absurd rfl hne
   ·exact h0
  have e:xs.take k=xs.take (k - 1)++[x]:=by
   have hlt:k - 1<xs.length:=by omega
   have:k=(k - 1)+1:=by omega
   conv=>lhs;rw [this]
   rw [List.take_succ_eq_append_getElem hlt]
   congr 2
   have:=List.getElem?_eq_getElem hlt
   rw [this] at hx
   cases hx
   rfl
  rw [e]
  exact limbs_val_snoc _ _ (by rw [← e];exact h.take k) hne
end Go.Qf
namespace Go.Qf
open Go Go.RowKit Go.Proofs
abbrev u32 (x:Nat):Value:=.int .u32 x
def Sl (w:World) (v:Value) (xs:List Nat):Prop:=Row 139 w v (xs.map u32)∧Lim xs
def cutTo:Value→Nat→Value
 | .slice p _ cap,k=>.slice p k cap
 | v,_=>v
theorem Sl.ext {w w':World} {v:Value} {xs:List Nat} (h:Sl w v xs) (hx:Ext w w'):Sl w' v xs:=⟨h.1.ext hx,h.2⟩
theorem Sl.drewN {w:World} {v:Value} {xs:List Nat} (h:Sl w v xs) (m:Nat):Sl (w.drewN m) v xs:=h
theorem Sl.form {w:World} {v:Value} {xs:List Nat} (h:Sl w v xs):∃ p cap,v=.slice p xs.length cap∧xs.length≤cap:=by
 obtain ⟨p,cap,hv,hl,_⟩:=h.1
 exact ⟨p,cap,by simpa using hv,by simpa using hl⟩
theorem Sl.get {w:World} {v:Value} {xs:List Nat} {i x:Nat} (_h:Sl w v xs) (hx:xs[i]?=some x):(xs.map u32)[i]?=some (u32 x):=by
 simp [hx]
theorem Row.cut {e:TypeId} {w:World} {v:Value} {cs:List Value} (h:Row e w v cs) (k:Nat) (hk:k≤cs.length):Row e w (cutTo v k) (cs.take k):=by
 obtain ⟨p,cap,hv,hl,h0,hc⟩:=h
 subst hv
 have e1:(cs.take k).length=k:=by simp;omega
 refine ⟨p,cap,by simp only [cutTo,e1],by omega,h0,fun a ha i c hi=>hc a ha i c ?_⟩
 have hi2:=(List.getElem?_eq_some_iff.1 hi).1
 rw [e1] at hi2
 rw [← hi,List.getElem?_take_of_lt hi2]
theorem Sl.cut {w:World} {v:Value} {xs:List Nat} (h:Sl w v xs) (k:Nat) (hk:k≤xs.length):Sl w (cutTo v k) (xs.take k):=by
 refine ⟨?_,h.2.take k⟩
 have:=h.1.cut k (by simpa using hk)
 rwa [← List.map_take] at this
set_option maxRecDepth 4000 in
theorem trim_spec (w:World) (v:Value) (xs:List Nat) (h:Sl w v xs) (hlen:xs.length≤1000000000) :
  Calls Tryz.prog 103 #[v] w (Ret fun r w'=>w'=w∧r=cutTo v (limbs (val xs)).length∧Sl w r (limbs (val xs))):=by
 obtain ⟨p,cap,rfl,hcap⟩:=h.form
 refine calls_of_St (args:=[_]) Tryz.func103 rfl Tryz.ntmps103 rfl ?_
 refine St.seq (St.region (StL.run TBok 99 rfl (StL.nil (Out.then_normal ?_))))
 refine St.seq (St.block ?_)
 refine St.loop (fun k:Nat=>[(0,.slice p k cap)]) (fun k w'=>w'=w∧k≤xs.length∧∀ j,k≤j→j<xs.length→xs[j]?=some 0) (fun k=>k) xs.length ⟨rfl,trivial⟩ ⟨rfl,Nat.le_refl _,fun j h1 h2=>by omega⟩ ?_
 rintro k w' ⟨rfl,hk,hz⟩
 refine St.seq (St.seq (St.region ?_))
 by_cases h0:k=0
 ·subst h0
  refine .a 3 (.bool false) rfl (bool_false (by omega)) ?_
  refine StL.run TBok 99 rfl (StL.nil (Out.then_normal ?_))
  refine St.condF rfl rfl (St.exit (Out.then_exit (Out.then_exit (Out.block_exit (Out.then_normal ?_)))))
  refine St.seq (St.region (StL.run TBok 99 rfl (StL.nil (Out.then_normal (St.ret ?_)))))
  have e:limbs (val xs)=xs.take 0:=limbs_take xs h.2 0 hz hk (.inl rfl)
  refine Out.ret1 rfl rfl ⟨rfl,?_,?_⟩
  ·rw [e];rfl
  ·rw [e];exact h.cut 0 hk
 ·obtain ⟨m,rfl⟩:∃ m,k=m+1:=⟨k - 1,by omega⟩
  have hx:xs[m]?=some xs[m]:=by simp
  generalize xs[m]=x at hx
  refine .a 3 (.bool true) rfl (bool_true (by omega)) ?_
  refine StL.run TBok 99 rfl ?_
  refine StL.elem TBok m (u32 x) (Row.cut h.1 (m+1) (by simpa using hk)) (by rw [List.getElem?_take_of_lt (by omega)];exact h.get hx) (by rw [i64_id (by omega) (by omega)];omega) rfl rfl rfl rfl rfl rfl rfl rfl rfl rfl (fun _=>rfl) ?_
  intro p1
  refine StL.run TBok 99 rfl (StL.nil (Out.then_normal ?_))
  refine St.cond rfl (fun hb=>?_) (fun hb=>?_)
  ·refine St.skip (Out.then_normal (St.block (St.region ?_)))
   refine StL.run TBok 99 rfl ?_
   have e1:IntKind.i64.wrap ((((m+1:Nat):Nat):Int) - 1)=m:=by rw [i64_id (by omega) (by omega)];omega
   refine .p (RunsTo.sliceHi TBok rfl rfl rfl rfl (by rw [e1];omega) (by rw [e1];omega)) ?_
   rw [e1]
   refine StL.run TBok 99 rfl (StL.nil (Out.block_normal (Out.again m ⟨rfl,trivial⟩ ⟨rfl,by omega,fun j h1 h2=>?_⟩ (Nat.lt_succ_self m))))
   by_cases hj:j=m
   ·subst hj;rw [hx];simp at hb;rw [hb]
   ·exact hz j (by omega) h2
  ·refine St.exit (Out.then_exit (Out.then_exit (Out.block_exit (Out.then_normal ?_))))
   refine St.seq (St.region (StL.run TBok 99 rfl (StL.nil (Out.then_normal (St.ret ?_)))))
   have hne:x≠0:=by
    intro e;subst e;simp at hb
   have e:limbs (val xs)=xs.take (m+1):=limbs_take xs h.2 (m+1) hz hk (.inr ⟨x,by simpa using hx,hne⟩)
   refine Out.ret1 rfl rfl ⟨rfl,?_,?_⟩
   ·rw [e];simp [cutTo];omega
   ·rw [e];exact h.cut (m+1) hk
end Go.Qf
namespace Go.Qf
theorem limbs_length_mono:∀ (a b:Nat),a≤b→(limbs a).length≤(limbs b).length:=by
 intro a
 induction a using Nat.strongRecOn with
 | _ a ih =>
  intro b h
  by_cases h0:a=0
  ·subst h0;simp [limbs_zero]
  ·rw [limbs_eq a h0,limbs_eq b (by omega)]
   have:=ih (a / 4294967296) (by omega) (b / 4294967296) (Nat.div_le_div_right h)
   simp;omega
def cmpN (a b:Nat):Int:=if a<b then -1 else if b<a then 1 else 0
theorem val_split (xs:List Nat) (i:Nat):val xs=val (xs.take i)+4294967296 ^ (min i xs.length) * val (xs.drop i):=by
 conv=>lhs;rw [← List.take_append_drop i xs]
 rw [val_append]
 simp
theorem val_lt_of (xs ys:List Nat) (hx:Lim xs) (hl:xs.length=ys.length) (i x y:Nat) (hxi:xs[i]?=some x) (hyi:ys[i]?=some y) (hlt:x<y) (heq:xs.drop (i+1)=ys.drop (i+1)):val xs<val ys:=by
 have hi:i<xs.length:=(List.getElem?_eq_some_iff.1 hxi).1
 have hi2:i<ys.length:=by omega
 rw [val_split xs i,val_split ys i]
 have e1:xs.drop i=x::xs.drop (i+1):=by
  rw [List.drop_eq_getElem_cons hi]
  rw [List.getElem?_eq_getElem hi] at hxi
  cases hxi;rfl
 have e2:ys.drop i=y::ys.drop (i+1):=by
  rw [List.drop_eq_getElem_cons hi2]
  rw [List.getElem?_eq_getElem hi2] at hyi
  cases hyi;rfl
 rw [e1,e2,heq]
 simp only [val]
 have e3:min i xs.length=i:=by omega
 have e4:min i ys.length=i:=by omega
 rw [e3,e4]
 have h1:val (xs.take i)<4294967296 ^ i:=by
  have:=val_lt (xs.take i) (hx.take i)
  simpa [e3] using this
 generalize val (ys.drop (i+1))=t
 have h2:4294967296 ^ i * (x+4294967296 * t)+4294967296 ^ i≤4294967296 ^ i * (y+4294967296 * t):=by
  rw [← Nat.mul_succ]
  exact Nat.mul_le_mul_left _ (by omega)
 omega
theorem limbs_lt_of_length {a b:Nat} (h:(limbs a).length<(limbs b).length):a<b:=by
 rcases Nat.lt_or_ge a b with h1 | h1
 ·exact h1
 ·have:=limbs_length_mono b a h1
  omega
theorem lim_two (m:Nat) (_h:m<18446744073709551616):Lim [m % 4294967296,m / 4294967296 % 4294967296]:=by
 intro x hx
 simp at hx
 rcases hx with rfl | rfl <;> omega
theorem val_two (m:Nat) (h:m<18446744073709551616):val [m % 4294967296,m / 4294967296 % 4294967296]=m:=by
 simp only [val];omega
theorem val_le_two {xs:List Nat} (h:Lim xs) (hl:xs.length≤2):val xs<18446744073709551616:=by
 match xs,hl with
 | [],_=>simp [val]
 | [a],_=>have:=h a (by simp);simp only [val];omega
 | [a,b],_=>have:=h a (by simp);have:=h b (by simp);simp only [val];omega
theorem limbs_length_le_two {m:Nat} (h:m<18446744073709551616):(limbs m).length≤2:=by
 have:=limbs_length_le _ (lim_two m h)
 rw [val_two m h] at this
 simpa using this
theorem or_low (x y s:Nat) (hx:x<2 ^ s):(x ||| y * 2 ^ s)=x+y * 2 ^ s:=by
 have:=Nat.two_pow_add_eq_or_of_lt hx y
 rw [Nat.or_comm,Nat.mul_comm y,← this,Nat.add_comm]
theorem limbs_length_lt {a k:Nat} (h:a<4294967296 ^ k):(limbs a).length≤k:=by
 have:∀ k a,a<4294967296 ^ k→(limbs a).length≤k:=by
  intro k
  induction k with
  | zero =>
       intro a h;have:a=0:=by simpa using h
       subst this;simp [limbs_zero]
  | succ k ih =>
   intro a h
   by_cases h0:a=0
   ·subst h0;simp [limbs_zero]
   ·rw [limbs_eq a h0]
    have:=ih (a / 4294967296) (Nat.div_lt_of_lt_mul (by rw [Nat.pow_succ,Nat.mul_comm] at h;exact h))
    simp;omega
 exact this k a h
theorem lt_pow_length (a:Nat):a<4294967296 ^ (limbs a).length:=by
 have:=val_lt (limbs a) (lim_limbs a)
 rwa [val_limbs] at this
theorem limbs_add_length (a b:Nat):(limbs (a+b)).length≤max (limbs a).length (limbs b).length+1:=by
 apply limbs_length_lt
 have h1:=lt_pow_length a
 have h2:=lt_pow_length b
 have h3:(4294967296:Nat) ^ (limbs a).length≤4294967296 ^ max (limbs a).length (limbs b).length:=Nat.pow_le_pow_right (by decide) (Nat.le_max_left _ _)
 have h4:(4294967296:Nat) ^ (limbs b).length≤4294967296 ^ max (limbs a).length (limbs b).length:=Nat.pow_le_pow_right (by decide) (Nat.le_max_right _ _)
 rw [Nat.pow_succ]
 omega
theorem limbs_mul_length (a b:Nat):(limbs (a * b)).length≤(limbs a).length+(limbs b).length:=by
 apply limbs_length_lt
 rw [Nat.pow_add]
 exact Nat.mul_lt_mul'' (lt_pow_length a) (lt_pow_length b)
theorem or_low32 (x y:Nat) (hx:x<4294967296):(x ||| y * 4294967296)=x+y * 4294967296:=or_low x y 32 hx
end Go.Qf
namespace Go.Qf
open Go
theorem toNat_ofInt64 (x:Nat) (h:x<18446744073709551616):(BitVec.ofInt 64 (x:Int)).toNat=x:=by
 simp;omega
theorem toNat_ofInt32 (x:Nat) (h:x<4294967296):(BitVec.ofInt 32 (x:Int)).toNat=x:=by
 simp;omega
theorem or_u64 (x y:Nat) (hx:x<18446744073709551616) (hy:y<18446744073709551616):bitsI .or .u64 x y=((x ||| y:Nat):Int):=by
 have hb:x ||| y<2 ^ 64:=Nat.or_lt_two_pow (by simpa using hx) (by simpa using hy)
 show IntKind.u64.wrap (((BitVec.ofInt 64 (x:Int) ||| BitVec.ofInt 64 (y:Int)).toNat:Nat):Int)=_
 rw [BitVec.toNat_or,toNat_ofInt64 x hx,toNat_ofInt64 y hy]
 exact u64_id (by omega) (by omega)
theorem or_u32 (x y:Nat) (hx:x<4294967296) (hy:y<4294967296):bitsI .or .u32 x y=((x ||| y:Nat):Int):=by
 have hb:x ||| y<2 ^ 32:=Nat.or_lt_two_pow (by simpa using hx) (by simpa using hy)
 show IntKind.u32.wrap (((BitVec.ofInt 32 (x:Int) ||| BitVec.ofInt 32 (y:Int)).toNat:Nat):Int)=_
 rw [BitVec.toNat_or,toNat_ofInt32 x hx,toNat_ofInt32 y hy]
 exact u32_id (by omega) (by omega)
theorem and_u32 (x y:Nat) (hx:x<4294967296) (hy:y<4294967296):bitsI .and .u32 x y=((x &&& y:Nat):Int):=by
 have hb:x &&& y≤x:=Nat.and_le_left
 show IntKind.u32.wrap (((BitVec.ofInt 32 (x:Int) &&& BitVec.ofInt 32 (y:Int)).toNat:Nat):Int)=_
 rw [BitVec.toNat_and,toNat_ofInt32 x hx,toNat_ofInt32 y hy]
 exact u32_id (by omega) (by omega)
end Go.Qf
namespace Go.Qf
open Go Go.Proofs
theorem TBfol:Tryz.prog.follows .mixedOrders=true:=by kernel_rfl
theorem fn_quadformmake_Lattice_Form:IsFn Tryz.prog 13 Tryz.f13:=⟨Tryz.func13,by kernel_rfl,by kernel_rfl⟩
theorem fn_schur_PartialNorm:IsFn Tryz.prog 15 Tryz.f15:=⟨Tryz.func15,by kernel_rfl,by kernel_rfl⟩
theorem fn_w10_awake:IsFn Tryz.prog 18 Tryz.f18:=⟨Tryz.func18,by kernel_rfl,by kernel_rfl⟩
theorem fn_schur_Interval:IsFn Tryz.prog 19 Tryz.f19:=⟨Tryz.func19,by kernel_rfl,by kernel_rfl⟩
theorem fn_r10_Of:IsFn Tryz.prog 21 Tryz.f21:=⟨Tryz.func21,by kernel_rfl,by kernel_rfl⟩
theorem fn_r02_Small:IsFn Tryz.prog 22 Tryz.f22:=⟨Tryz.func22,by kernel_rfl,by kernel_rfl⟩
theorem fn_r02_Half:IsFn Tryz.prog 30 Tryz.f30:=⟨Tryz.func30,by kernel_rfl,by kernel_rfl⟩
theorem fn_r02_Add:IsFn Tryz.prog 31 Tryz.f31:=⟨Tryz.func31,by kernel_rfl,by kernel_rfl⟩
theorem fn_schur_Steps:IsFn Tryz.prog 34 Tryz.f34:=⟨Tryz.func34,by kernel_rfl,by kernel_rfl⟩
theorem fn_r10_Steps:IsFn Tryz.prog 35 Tryz.f35:=⟨Tryz.func35,by kernel_rfl,by kernel_rfl⟩
theorem fn_r08_Reduce:IsFn Tryz.prog 36 Tryz.f36:=⟨Tryz.func36,by kernel_rfl,by kernel_rfl⟩
theorem fn_r03_Of:IsFn Tryz.prog 37 Tryz.f37:=⟨Tryz.func37,by kernel_rfl,by kernel_rfl⟩
theorem fn_quadformmake_Lattice_Gram:IsFn Tryz.prog 38 Tryz.f38:=⟨Tryz.func38,by kernel_rfl,by kernel_rfl⟩
theorem fn_lll_IsReduced:IsFn Tryz.prog 39 Tryz.f39:=⟨Tryz.func39,by kernel_rfl,by kernel_rfl⟩
theorem fn_schur_isTail:IsFn Tryz.prog 40 Tryz.f40:=⟨Tryz.func40,by kernel_rfl,by kernel_rfl⟩
theorem fn_schur_eliminate:IsFn Tryz.prog 41 Tryz.f41:=⟨Tryz.func41,by kernel_rfl,by kernel_rfl⟩
theorem fn_rational_New:IsFn Tryz.prog 42 Tryz.f42:=⟨Tryz.func42,by kernel_rfl,by kernel_rfl⟩
theorem fn_r08_IsReduced:IsFn Tryz.prog 44 Tryz.f44:=⟨Tryz.func44,by kernel_rfl,by kernel_rfl⟩
theorem fn_r02_Format:IsFn Tryz.prog 47 Tryz.f47:=⟨Tryz.func47,by kernel_rfl,by kernel_rfl⟩
theorem fn_integer_Sub:IsFn Tryz.prog 48 Tryz.f48:=⟨Tryz.func48,by kernel_rfl,by kernel_rfl⟩
theorem fn_integer_Mul:IsFn Tryz.prog 49 Tryz.f49:=⟨Tryz.func49,by kernel_rfl,by kernel_rfl⟩
theorem fn_integer_Small:IsFn Tryz.prog 50 Tryz.f50:=⟨Tryz.func50,by kernel_rfl,by kernel_rfl⟩
theorem fn_integer_Sqrt:IsFn Tryz.prog 51 Tryz.f51:=⟨Tryz.func51,by kernel_rfl,by kernel_rfl⟩
theorem fn_schur_product:IsFn Tryz.prog 52 Tryz.f52:=⟨Tryz.func52,by kernel_rfl,by kernel_rfl⟩
theorem fn_integer_DivMod:IsFn Tryz.prog 53 Tryz.f53:=⟨Tryz.func53,by kernel_rfl,by kernel_rfl⟩
theorem fn_integer_Add:IsFn Tryz.prog 54 Tryz.f54:=⟨Tryz.func54,by kernel_rfl,by kernel_rfl⟩
theorem fn_integer_Int64:IsFn Tryz.prog 55 Tryz.f55:=⟨Tryz.func55,by kernel_rfl,by kernel_rfl⟩
theorem fn_integer_Neg:IsFn Tryz.prog 56 Tryz.f56:=⟨Tryz.func56,by kernel_rfl,by kernel_rfl⟩
theorem fn_r10_Frame_Interval:IsFn Tryz.prog 57 Tryz.f57:=⟨Tryz.func57,by kernel_rfl,by kernel_rfl⟩
theorem fn_r04_Stages:IsFn Tryz.prog 58 Tryz.f58:=⟨Tryz.func58,by kernel_rfl,by kernel_rfl⟩
theorem fn_r04_Leading:IsFn Tryz.prog 59 Tryz.f59:=⟨Tryz.func59,by kernel_rfl,by kernel_rfl⟩
theorem fn_r01_Small:IsFn Tryz.prog 60 Tryz.f60:=⟨Tryz.func60,by kernel_rfl,by kernel_rfl⟩
theorem fn_r02_Whole:IsFn Tryz.prog 61 Tryz.f61:=⟨Tryz.func61,by kernel_rfl,by kernel_rfl⟩
theorem fn_r02_Quotient:IsFn Tryz.prog 62 Tryz.f62:=⟨Tryz.func62,by kernel_rfl,by kernel_rfl⟩
theorem fn_r09_Column:IsFn Tryz.prog 64 Tryz.f64:=⟨Tryz.func64,by kernel_rfl,by kernel_rfl⟩
theorem fn_r02_Normalize:IsFn Tryz.prog 68 Tryz.f68:=⟨Tryz.func68,by kernel_rfl,by kernel_rfl⟩
theorem fn_r02_New:IsFn Tryz.prog 69 Tryz.f69:=⟨Tryz.func69,by kernel_rfl,by kernel_rfl⟩
theorem fn_r01_Mul:IsFn Tryz.prog 70 Tryz.f70:=⟨Tryz.func70,by kernel_rfl,by kernel_rfl⟩
theorem fn_r01_Add:IsFn Tryz.prog 71 Tryz.f71:=⟨Tryz.func71,by kernel_rfl,by kernel_rfl⟩
theorem fn_r01_Sign:IsFn Tryz.prog 72 Tryz.f72:=⟨Tryz.func72,by kernel_rfl,by kernel_rfl⟩
theorem fn_schur_newWalk:IsFn Tryz.prog 73 Tryz.f73:=⟨Tryz.func73,by kernel_rfl,by kernel_rfl⟩
theorem fn_r10_arguments:IsFn Tryz.prog 75 Tryz.f75:=⟨Tryz.func75,by kernel_rfl,by kernel_rfl⟩
theorem fn_r10_Frame_count:IsFn Tryz.prog 76 Tryz.f76:=⟨Tryz.func76,by kernel_rfl,by kernel_rfl⟩
theorem fn_r07_Validate:IsFn Tryz.prog 77 Tryz.f77:=⟨Tryz.func77,by kernel_rfl,by kernel_rfl⟩
theorem fn_r08_small:IsFn Tryz.prog 78 Tryz.f78:=⟨Tryz.func78,by kernel_rfl,by kernel_rfl⟩
theorem fn_r03_Copy:IsFn Tryz.prog 79 Tryz.f79:=⟨Tryz.func79,by kernel_rfl,by kernel_rfl⟩
theorem fn_r03_Identity:IsFn Tryz.prog 80 Tryz.f80:=⟨Tryz.func80,by kernel_rfl,by kernel_rfl⟩
theorem fn_r08_step:IsFn Tryz.prog 81 Tryz.f81:=⟨Tryz.func81,by kernel_rfl,by kernel_rfl⟩
theorem fn_r03_ToInts:IsFn Tryz.prog 82 Tryz.f82:=⟨Tryz.func82,by kernel_rfl,by kernel_rfl⟩
theorem fn_r07_Congruent:IsFn Tryz.prog 83 Tryz.f83:=⟨Tryz.func83,by kernel_rfl,by kernel_rfl⟩
theorem fn_r03_Product:IsFn Tryz.prog 84 Tryz.f84:=⟨Tryz.func84,by kernel_rfl,by kernel_rfl⟩
theorem fn_r03_FromInts:IsFn Tryz.prog 85 Tryz.f85:=⟨Tryz.func85,by kernel_rfl,by kernel_rfl⟩
theorem fn_quadformmake_general:IsFn Tryz.prog 86 Tryz.f86:=⟨Tryz.func86,by kernel_rfl,by kernel_rfl⟩
theorem fn_quadformmake_chain:IsFn Tryz.prog 87 Tryz.f87:=⟨Tryz.func87,by kernel_rfl,by kernel_rfl⟩
theorem fn_quadformmake_diagonal:IsFn Tryz.prog 89 Tryz.f89:=⟨Tryz.func89,by kernel_rfl,by kernel_rfl⟩
theorem fn_quadformmake_good:IsFn Tryz.prog 90 Tryz.f90:=⟨Tryz.func90,by kernel_rfl,by kernel_rfl⟩
theorem fn_lll_isSmall:IsFn Tryz.prog 91 Tryz.f91:=⟨Tryz.func91,by kernel_rfl,by kernel_rfl⟩
theorem fn_lll_isShortened:IsFn Tryz.prog 92 Tryz.f92:=⟨Tryz.func92,by kernel_rfl,by kernel_rfl⟩
theorem fn_matrix_FromInts:IsFn Tryz.prog 93 Tryz.f93:=⟨Tryz.func93,by kernel_rfl,by kernel_rfl⟩
theorem fn_bareiss_Stages:IsFn Tryz.prog 94 Tryz.f94:=⟨Tryz.func94,by kernel_rfl,by kernel_rfl⟩
theorem fn_integer_Sign:IsFn Tryz.prog 95 Tryz.f95:=⟨Tryz.func95,by kernel_rfl,by kernel_rfl⟩
theorem fn_rational_lowest:IsFn Tryz.prog 96 Tryz.f96:=⟨Tryz.func96,by kernel_rfl,by kernel_rfl⟩
theorem fn_r08_reduced:IsFn Tryz.prog 97 Tryz.f97:=⟨Tryz.func97,by kernel_rfl,by kernel_rfl⟩
theorem fn_r01_cmp:IsFn Tryz.prog 99 Tryz.f99:=⟨Tryz.func99,by kernel_rfl,by kernel_rfl⟩
theorem fn_r02_IsWhole:IsFn Tryz.prog 100 Tryz.f100:=⟨Tryz.func100,by kernel_rfl,by kernel_rfl⟩
theorem fn_r01_Format:IsFn Tryz.prog 101 Tryz.f101:=⟨Tryz.func101,by kernel_rfl,by kernel_rfl⟩
theorem fn_integer_addSigned:IsFn Tryz.prog 102 Tryz.f102:=⟨Tryz.func102,by kernel_rfl,by kernel_rfl⟩
theorem fn_integer_trim:IsFn Tryz.prog 103 Tryz.f103:=⟨Tryz.func103,by kernel_rfl,by kernel_rfl⟩
theorem fn_integer_build:IsFn Tryz.prog 104 Tryz.f104:=⟨Tryz.func104,by kernel_rfl,by kernel_rfl⟩
theorem fn_integer_mulNat:IsFn Tryz.prog 105 Tryz.f105:=⟨Tryz.func105,by kernel_rfl,by kernel_rfl⟩
theorem fn_integer_fromWord:IsFn Tryz.prog 106 Tryz.f106:=⟨Tryz.func106,by kernel_rfl,by kernel_rfl⟩
theorem fn_integer_sqrtNat:IsFn Tryz.prog 107 Tryz.f107:=⟨Tryz.func107,by kernel_rfl,by kernel_rfl⟩
theorem fn_integer_divNat:IsFn Tryz.prog 108 Tryz.f108:=⟨Tryz.func108,by kernel_rfl,by kernel_rfl⟩
theorem fn_integer_addNat:IsFn Tryz.prog 109 Tryz.f109:=⟨Tryz.func109,by kernel_rfl,by kernel_rfl⟩
theorem fn_integer_subNat:IsFn Tryz.prog 110 Tryz.f110:=⟨Tryz.func110,by kernel_rfl,by kernel_rfl⟩
theorem fn_integer_word:IsFn Tryz.prog 111 Tryz.f111:=⟨Tryz.func111,by kernel_rfl,by kernel_rfl⟩
theorem fn_slices_Clone_uint32_uint32:IsFn Tryz.prog 112 Tryz.f112:=⟨Tryz.func112,by kernel_rfl,by kernel_rfl⟩
theorem fn_r03_Dot:IsFn Tryz.prog 113 Tryz.f113:=⟨Tryz.func113,by kernel_rfl,by kernel_rfl⟩
theorem fn_r01_Sub:IsFn Tryz.prog 114 Tryz.f114:=⟨Tryz.func114,by kernel_rfl,by kernel_rfl⟩
theorem fn_r01_Sqrt:IsFn Tryz.prog 115 Tryz.f115:=⟨Tryz.func115,by kernel_rfl,by kernel_rfl⟩
theorem fn_r01_Int64:IsFn Tryz.prog 116 Tryz.f116:=⟨Tryz.func116,by kernel_rfl,by kernel_rfl⟩
theorem fn_r01_Quo:IsFn Tryz.prog 117 Tryz.f117:=⟨Tryz.func117,by kernel_rfl,by kernel_rfl⟩
theorem fn_r01_Neg:IsFn Tryz.prog 118 Tryz.f118:=⟨Tryz.func118,by kernel_rfl,by kernel_rfl⟩
theorem fn_r04_Stage:IsFn Tryz.prog 119 Tryz.f119:=⟨Tryz.func119,by kernel_rfl,by kernel_rfl⟩
theorem fn_r03_Square:IsFn Tryz.prog 120 Tryz.f120:=⟨Tryz.func120,by kernel_rfl,by kernel_rfl⟩
theorem fn_r03_Determinant:IsFn Tryz.prog 121 Tryz.f121:=⟨Tryz.func121,by kernel_rfl,by kernel_rfl⟩
theorem fn_r03_Select:IsFn Tryz.prog 122 Tryz.f122:=⟨Tryz.func122,by kernel_rfl,by kernel_rfl⟩
theorem fn_r04_first:IsFn Tryz.prog 123 Tryz.f123:=⟨Tryz.func123,by kernel_rfl,by kernel_rfl⟩
theorem fn_r01_word:IsFn Tryz.prog 124 Tryz.f124:=⟨Tryz.func124,by kernel_rfl,by kernel_rfl⟩
theorem fn_r01_Normalize:IsFn Tryz.prog 125 Tryz.f125:=⟨Tryz.func125,by kernel_rfl,by kernel_rfl⟩
theorem fn_r01_Gcd:IsFn Tryz.prog 130 Tryz.f130:=⟨Tryz.func130,by kernel_rfl,by kernel_rfl⟩
theorem fn_r01_Make:IsFn Tryz.prog 131 Tryz.f131:=⟨Tryz.func131,by kernel_rfl,by kernel_rfl⟩
theorem fn_r01_trim:IsFn Tryz.prog 132 Tryz.f132:=⟨Tryz.func132,by kernel_rfl,by kernel_rfl⟩
theorem fn_r01_sum:IsFn Tryz.prog 133 Tryz.f133:=⟨Tryz.func133,by kernel_rfl,by kernel_rfl⟩
theorem fn_r01_difference:IsFn Tryz.prog 134 Tryz.f134:=⟨Tryz.func134,by kernel_rfl,by kernel_rfl⟩
theorem fn_schur_small:IsFn Tryz.prog 135 Tryz.f135:=⟨Tryz.func135,by kernel_rfl,by kernel_rfl⟩
theorem fn_schur_root:IsFn Tryz.prog 136 Tryz.f136:=⟨Tryz.func136,by kernel_rfl,by kernel_rfl⟩
theorem fn_r10_longer:IsFn Tryz.prog 138 Tryz.f138:=⟨Tryz.func138,by kernel_rfl,by kernel_rfl⟩
theorem fn_r04_Symmetric:IsFn Tryz.prog 139 Tryz.f139:=⟨Tryz.func139,by kernel_rfl,by kernel_rfl⟩
theorem fn_r04_Definite:IsFn Tryz.prog 140 Tryz.f140:=⟨Tryz.func140,by kernel_rfl,by kernel_rfl⟩
theorem fn_r01_Cmp:IsFn Tryz.prog 141 Tryz.f141:=⟨Tryz.func141,by kernel_rfl,by kernel_rfl⟩
theorem fn_r03_Zero:IsFn Tryz.prog 142 Tryz.f142:=⟨Tryz.func142,by kernel_rfl,by kernel_rfl⟩
theorem fn_r08_Sized:IsFn Tryz.prog 143 Tryz.f143:=⟨Tryz.func143,by kernel_rfl,by kernel_rfl⟩
theorem fn_r02_Nearest:IsFn Tryz.prog 144 Tryz.f144:=⟨Tryz.func144,by kernel_rfl,by kernel_rfl⟩
theorem fn_r08_Lambda:IsFn Tryz.prog 145 Tryz.f145:=⟨Tryz.func145,by kernel_rfl,by kernel_rfl⟩
theorem fn_r08_minor:IsFn Tryz.prog 146 Tryz.f146:=⟨Tryz.func146,by kernel_rfl,by kernel_rfl⟩
theorem fn_r08_Lovasz:IsFn Tryz.prog 147 Tryz.f147:=⟨Tryz.func147,by kernel_rfl,by kernel_rfl⟩
theorem fn_r03_Shape:IsFn Tryz.prog 148 Tryz.f148:=⟨Tryz.func148,by kernel_rfl,by kernel_rfl⟩
theorem fn_r03_Transpose:IsFn Tryz.prog 149 Tryz.f149:=⟨Tryz.func149,by kernel_rfl,by kernel_rfl⟩
theorem fn_r03_Mul:IsFn Tryz.prog 150 Tryz.f150:=⟨Tryz.func150,by kernel_rfl,by kernel_rfl⟩
theorem fn_matrix_shape_int64:IsFn Tryz.prog 151 Tryz.f151:=⟨Tryz.func151,by kernel_rfl,by kernel_rfl⟩
theorem fn_matrix_build_api_Int:IsFn Tryz.prog 152 Tryz.f152:=⟨Tryz.func152,by kernel_rfl,by kernel_rfl⟩
theorem fn_matrix_FromInts_1:IsFn Tryz.prog 153 Tryz.f153:=⟨Tryz.func153,by kernel_rfl,by kernel_rfl⟩
theorem fn_bareiss_square:IsFn Tryz.prog 154 Tryz.f154:=⟨Tryz.func154,by kernel_rfl,by kernel_rfl⟩
theorem fn_bareiss_table:IsFn Tryz.prog 155 Tryz.f155:=⟨Tryz.func155,by kernel_rfl,by kernel_rfl⟩
theorem fn_bareiss_Stages_1:IsFn Tryz.prog 156 Tryz.f156:=⟨Tryz.func156,by kernel_rfl,by kernel_rfl⟩
theorem fn_integer_Normalize:IsFn Tryz.prog 157 Tryz.f157:=⟨Tryz.func157,by kernel_rfl,by kernel_rfl⟩
theorem fn_bareiss_Stages_2:IsFn Tryz.prog 158 Tryz.f158:=⟨Tryz.func158,by kernel_rfl,by kernel_rfl⟩
theorem fn_bareiss_cross:IsFn Tryz.prog 159 Tryz.f159:=⟨Tryz.func159,by kernel_rfl,by kernel_rfl⟩
theorem fn_integer_Gcd:IsFn Tryz.prog 160 Tryz.f160:=⟨Tryz.func160,by kernel_rfl,by kernel_rfl⟩
theorem fn_r01_Abs:IsFn Tryz.prog 161 Tryz.f161:=⟨Tryz.func161,by kernel_rfl,by kernel_rfl⟩
theorem fn_r01_DivMod:IsFn Tryz.prog 162 Tryz.f162:=⟨Tryz.func162,by kernel_rfl,by kernel_rfl⟩
theorem fn_r01_low:IsFn Tryz.prog 163 Tryz.f163:=⟨Tryz.func163,by kernel_rfl,by kernel_rfl⟩
theorem fn_integer_compareNat:IsFn Tryz.prog 164 Tryz.f164:=⟨Tryz.func164,by kernel_rfl,by kernel_rfl⟩
theorem fn_math_bits_LeadingZeros32:IsFn Tryz.prog 165 Tryz.f165:=⟨Tryz.func165,by kernel_rfl,by kernel_rfl⟩
theorem fn_integer_shiftRight:IsFn Tryz.prog 166 Tryz.f166:=⟨Tryz.func166,by kernel_rfl,by kernel_rfl⟩
theorem fn_integer_divideByLimb:IsFn Tryz.prog 167 Tryz.f167:=⟨Tryz.func167,by kernel_rfl,by kernel_rfl⟩
theorem fn_integer_shiftLeft:IsFn Tryz.prog 168 Tryz.f168:=⟨Tryz.func168,by kernel_rfl,by kernel_rfl⟩
theorem fn_integer_divideStep:IsFn Tryz.prog 169 Tryz.f169:=⟨Tryz.func169,by kernel_rfl,by kernel_rfl⟩
theorem fn_r01_Rem:IsFn Tryz.prog 170 Tryz.f170:=⟨Tryz.func170,by kernel_rfl,by kernel_rfl⟩
theorem fn_math_bits_Len64:IsFn Tryz.prog 171 Tryz.f171:=⟨Tryz.func171,by kernel_rfl,by kernel_rfl⟩
theorem fn_schur_floor:IsFn Tryz.prog 172 Tryz.f172:=⟨Tryz.func172,by kernel_rfl,by kernel_rfl⟩
theorem fn_r02_Floor:IsFn Tryz.prog 173 Tryz.f173:=⟨Tryz.func173,by kernel_rfl,by kernel_rfl⟩
theorem fn_matrix_Shape:IsFn Tryz.prog 174 Tryz.f174:=⟨Tryz.func174,by kernel_rfl,by kernel_rfl⟩
theorem fn_integer_gcdNat:IsFn Tryz.prog 175 Tryz.f175:=⟨Tryz.func175,by kernel_rfl,by kernel_rfl⟩
theorem fn_r01_divide:IsFn Tryz.prog 176 Tryz.f176:=⟨Tryz.func176,by kernel_rfl,by kernel_rfl⟩
theorem fn_math_bits_Len32:IsFn Tryz.prog 177 Tryz.f177:=⟨Tryz.func177,by kernel_rfl,by kernel_rfl⟩
theorem fn_matrix_shape_api_Int:IsFn Tryz.prog 178 Tryz.f178:=⟨Tryz.func178,by kernel_rfl,by kernel_rfl⟩
theorem fn_r01_double:IsFn Tryz.prog 179 Tryz.f179:=⟨Tryz.func179,by kernel_rfl,by kernel_rfl⟩
theorem StL.r {n:Nat} {w:World} {ops:Array Oper} {Q:Exit→Act→World→Prop} {E E':List (Nat×Value)} {l l':List Oper} (h:runPure TB n ops 99 E l=(E',l')) (k:StL Tryz.prog n E' w ops l' Q):StL Tryz.prog n E w ops l Q:=StL.run TBok 99 h k
end Go.Qf
namespace Go.Qf
open Go Go.RowKit
def edgesTo (o:Oper):List Nat:=(o.after.toList.filter (Region.binds .any)).map (·.on)
theorem mem_edgesTo {o:Oper} {j:Nat}:j ∈ edgesTo o↔∃ e ∈ o.after,Region.binds .any e=true∧e.on=j:=by
 simp [edgesTo,and_assoc]
def maskOf (acc:List Nat) (o:Oper):Nat:=(edgesTo o).foldl (fun s e=>s ||| 2 ^ e ||| acc.getD e 0) 0
def masks:List Nat→List Oper→List Nat
 | acc,[]=>acc
 | acc,o::r=>masks (acc++[maskOf acc o]) r
theorem foldl_bit (acc:List Nat) (j:Nat):∀ (es:List Nat) (s:Nat),(es.foldl (fun s e=>s ||| 2 ^ e ||| acc.getD e 0) s).testBit j=true →
  s.testBit j=true∨∃ e ∈ es,e=j∨(acc.getD e 0).testBit j=true:=by
 intro es
 induction es with
 | nil=>intro s h;exact .inl h
 | cons e r ih =>
  intro s h
  rw [List.foldl_cons] at h
  rcases ih _ h with h1 | ⟨e',he,h1⟩
  ·rw [Nat.testBit_or,Nat.testBit_or,Bool.or_eq_true,Bool.or_eq_true,Nat.testBit_two_pow,decide_eq_true_eq] at h1
   rcases h1 with (h1 | h1) | h1
   ·exact .inl h1
   ·exact .inr ⟨e,by simp,.inl h1⟩
   ·exact .inr ⟨e,by simp,.inr h1⟩
  ·exact .inr ⟨e',by simp [he],h1⟩
section
variable {l:List Oper} {L:Nat→Prop}
theorem masks_spec (hcl:∀ i o,l[i]?=some o→L i→∀ e ∈ edgesTo o,L e) :
  ∀ (r:List Oper) (acc:List Nat) (pre:List Oper),l=pre++r→acc.length=pre.length →
   (∀ k o,k<acc.length→l[k]?=some o→(∀ e ∈ edgesTo o,L e)→∀ j,(acc.getD k 0).testBit j=true→L j) →
   ∀ k o,l[k]?=some o→(∀ e ∈ edgesTo o,L e)→∀ j,((masks acc r).getD k 0).testBit j=true→L j:=by
 intro r
 induction r with
 | nil =>
  intro acc pre hl hlen h k o hk he j hj
  have:k<acc.length:=by
   have:=(List.getElem?_eq_some_iff.1 hk).1
   rw [hl] at this
   simp at this
   omega
  exact h k o this hk he j hj
 | cons o r ih =>
  intro acc pre hl hlen h
  refine ih (acc++[maskOf acc o]) (pre++[o]) (by simp [hl]) (by simp [hlen]) ?_
  intro k o' hk hk2 he j hj
  by_cases hlt:k<acc.length
  ·have hg:(acc++[maskOf acc o]).getD k 0=acc.getD k 0:=by simp [List.getD_eq_getElem?_getD,List.getElem?_append_left hlt]
   rw [hg] at hj
   exact h k o' hlt hk2 he j hj
  ·have hk':k=acc.length:=by simp at hk;omega
   subst hk'
   have ho:o'=o:=by
    rw [hl,hlen] at hk2
    simpa using hk2.symm
   subst ho
   have:(acc++[maskOf acc o']).getD acc.length 0=maskOf acc o':=by simp [List.getD_eq_getElem?_getD]
   rw [this] at hj
   rcases foldl_bit acc j (edgesTo o') 0 hj with h1 | ⟨e,hee,h1 | h1⟩
   ·simp at h1
   ·subst h1;exact he e hee
   ·by_cases hlt2:e<acc.length
    ·have hex:∃ o2,l[e]?=some o2:=by
      have:e<l.length:=by rw [hl];simp;omega
      exact ⟨_,List.getElem?_eq_getElem this⟩
     obtain ⟨o2,ho2⟩:=hex
     exact h e o2 hlt2 ho2 (fun e' h'=>hcl e o2 ho2 (he e hee) e' h') j h1
    ·rw [List.getD_eq_getElem?_getD,List.getElem?_eq_none (by omega)] at h1
     simp at h1
end
def slotsOfOp (op:Op):List Nat:=op.operands.toList.filterMap fun | .tmp t=>some t | _=>none
def looks (l:List Oper) (o:Oper):List Nat :=
 slotsOfOp o.op++(match o.guard with
  | none=>[]
  | some (j,_)=>match (l[j]?).bind (·.dst) with
   | some d=>[d]
   | none=>[])
abbrev Psi:=Value→World→Prop
def lookP:List (Nat×Psi)→Nat→Option Psi
 | [],_=>none
 | (k,v)::r,n=>bif Nat.beq k n then some v else lookP r n
def obl (S:List (Nat×Psi)):List Nat→List (Nat×Value)→World→(List (Nat×Value)→Prop)→Prop
 | [],E,_,k=>k E
 | t::ts,E,w,k =>
  match lookP S t with
  | some ψ=>∀ v,ψ v w→obl S ts ((t,v)::E) w k
  | none=>obl S ts E w k
def allP:List (Nat×Psi)→List (Nat×Value)→World→(List (Nat×Value)→Prop)→Prop
 | [],E,_,k=>k E
 | (t,ψ)::r,E,w,k=>∀ v,ψ v w→allP r ((t,v)::E) w k
def monoP:List (Nat×Psi)→Prop
 | []=>True
 | (_,ψ)::r=>(∀ v w w',Ext w w'→ψ v w→ψ v w')∧monoP r
def isAlloc:Op→Bool
 | .alloc _=>true
 | .box _ _=>true
 | _=>false
def After (o:Oper) (S:List (Nat×Psi)) (w1:World) (v:Value) (w2:World):Prop :=
 Ext w1 w2∧(∀ d ψ,o.dst=some d→lookP S d=some ψ→ψ v w2)∧(isAlloc o.op=true→∃ b,v=.pointer (some ⟨b,0,none⟩)∧w1.heap.size≤b∧b<w2.heap.size)
def allocs:List Oper→List Nat
 | []=>[]
 | o::r=>match o.dst with
  | some d=>bif isAlloc o.op then d::allocs r else allocs r
  | none=>allocs r
def Dist (ts:List Nat) (E:List (Nat×Value)):Prop:=∀ t,t ∈ ts→∀ t',t' ∈ ts→t≠t'→∀ v,look E t=some v→look E t'=some v→False
def steps (P:Program) (n:Nat) (l:List Oper) (S:List (Nat×Psi)) (E:List (Nat×Value)) (w:World):List Oper→Prop
 | []=>True
 | o::r=>(∀ w1,Ext w w1→obl S (looks l o) E w1 (fun E2=>OpG P n l.toArray o E2 w1 (After o S w1)))∧steps P n l S E w r
def isNone':Option Value→Bool
 | none=>true
 | some _=>false
def dsts:List Oper→List Nat
 | []=>[]
 | o::r=>match o.dst with
  | some d=>d::dsts r
  | none=>dsts r
def drawOk (l:List Oper) (m:Nat) (S:List Nat):Bool :=
 Nat.ble m l.length &&
 (List.range l.length).all (fun i=>match l[i]? with | some o=>(edgesTo o).all (fun e=>Nat.blt e i) | none=>false) &&
 (List.range m).all (fun i=>match l[i]? with
  | some o=>(match o.dst with | some d=>S.contains d | none=>false) && (looks l o).all (fun t=>!(S.contains t) || (List.range m).any (fun j=>match l[j]? with | some oj=>oj.dst == some t && (edgesTo o).contains j | none=>false))
  | none=>false) &&
 (List.range m).all (fun i=>(List.range m).all (fun j=>Nat.beq i j || match l[i]?,l[j]? with | some a,some b=>!(a.dst == b.dst) | _,_=>false)) &&
 S.all (fun t=>(List.range m).any (fun j=>match l[j]? with | some oj=>oj.dst == some t | none=>false)) &&
 (List.range l.length).all (fun k=>Nat.blt k m || (List.range k).all (fun j=>((masks [] l).getD k 0).testBit j))
def freeE:List Nat→List (Nat×Value)→Bool
 | [],_=>true
 | d::r,E=>isNone' (look E d) && freeE r E
theorem freeE_spec {E:List (Nat×Value)}:∀ {S:List Nat},freeE S E=true→∀ d ∈ S,look E d=none:=by
 intro S
 induction S with
 | nil=>intro _ d hd;cases hd
 | cons x r ih =>
  intro h d hd
  simp only [freeE,Bool.and_eq_true] at h
  rcases List.mem_cons.1 hd with rfl | hd
  ·cases hl:look E d with
   | none=>rfl
   | some v=>rw [hl] at h;simp [isNone'] at h
  ·exact ih h.2 d hd
structure DrawOk (l:List Oper) (m:Nat) (S:List Nat):Prop where
 le:m≤l.length
 back:∀ i o,l[i]?=some o→∀ e ∈ edgesTo o,e<i
 dst:∀ i o,i<m→l[i]?=some o→∃ d,o.dst=some d∧d ∈ S
 pred:∀ i o,i<m→l[i]?=some o→∀ t ∈ looks l o,t ∈ S→∃ j oj,j<m∧l[j]?=some oj∧oj.dst=some t∧j ∈ edgesTo o
 inj:∀ i j a b,i<m→j<m→l[i]?=some a→l[j]?=some b→a.dst=b.dst→i=j
 src:∀ t ∈ S,∃ j oj,j<m∧l[j]?=some oj∧oj.dst=some t
 last:∀ k,m≤k→k<l.length→∀ j,j<k→((masks [] l).getD k 0).testBit j=true
theorem drawOk_spec {l:List Oper} {m:Nat} {S:List Nat} (h:drawOk l m S=true):DrawOk l m S:=by
 simp only [drawOk,Bool.and_eq_true] at h
 obtain ⟨⟨⟨⟨⟨h1,h2⟩,h3⟩,h4⟩,h5⟩,h6⟩:=h
 have hle:=Nat.le_of_ble_eq_true h1
 refine ⟨hle,?_,?_,?_,?_,?_,?_⟩
 ·intro i o ho e he
  have hi:=(List.getElem?_eq_some_iff.1 ho).1
  have:=List.all_eq_true.1 h2 i (List.mem_range.2 hi)
  rw [ho] at this
  simpa [Nat.blt_eq] using List.all_eq_true.1 this e he
 ·intro i o hi ho
  have:=List.all_eq_true.1 h3 i (List.mem_range.2 hi)
  rw [ho] at this
  simp only [Bool.and_eq_true] at this
  cases hd:o.dst with
  | none=>rw [hd] at this;simp at this
  | some d=>rw [hd] at this;exact ⟨d,rfl,by simpa using this.1⟩
 ·intro i o hi ho t ht hS
  have:=List.all_eq_true.1 h3 i (List.mem_range.2 hi)
  rw [ho] at this
  simp only [Bool.and_eq_true] at this
  have h7:=List.all_eq_true.1 this.2 t ht
  simp only [Bool.or_eq_true] at h7
  rcases h7 with h7 | h7
  ·simp [hS] at h7
  ·obtain ⟨j,hj,h8⟩:=List.any_eq_true.1 h7
   cases hoj:l[j]? with
   | none=>rw [hoj] at h8;simp at h8
   | some oj =>
    rw [hoj] at h8
    simp only [Bool.and_eq_true,beq_iff_eq,List.contains_iff_mem] at h8
    exact ⟨j,oj,List.mem_range.1 hj,hoj,h8.1,h8.2⟩
 ·intro i j a b hi hj ha hb hab
  have:=List.all_eq_true.1 (List.all_eq_true.1 h4 i (List.mem_range.2 hi)) j (List.mem_range.2 hj)
  rw [ha,hb] at this
  simp only [Bool.or_eq_true] at this
  rcases this with h7 | h7
  ·exact Nat.eq_of_beq_eq_true h7
  ·simp [hab] at h7
 ·intro t ht
  obtain ⟨j,hj,h8⟩:=List.any_eq_true.1 (List.all_eq_true.1 h5 t ht)
  cases hoj:l[j]? with
  | none=>rw [hoj] at h8;simp at h8
  | some oj =>
   rw [hoj] at h8
   exact ⟨j,oj,List.mem_range.1 hj,hoj,by simpa using h8⟩
 ·intro k hk hk2 j hj
  have:=List.all_eq_true.1 h6 k (List.mem_range.2 hk2)
  simp only [Bool.or_eq_true] at this
  rcases this with h7 | h7
  ·simp [Nat.blt_eq] at h7;omega
  ·exact List.all_eq_true.1 h7 j (List.mem_range.2 hj)
theorem stageB {P:Program} {l:List Oper} {m:Nat} (hback:∀ i o,l[i]?=some o→∀ e ∈ edgesTo o,e<i) (hlast:∀ k,m≤k→k<l.length→∀ j,j<k→((masks [] l).getD k 0).testBit j=true) {Q:Exit→Act→World→Prop}:∀ (f k:Nat) (listed:Array Bool) (a:Act) (w:World),k+f=l.length→m≤k→listed.size=l.length →
  (∀ i,i<k→listed.getD i false=true)→(∀ i,k≤i→listed.getD i false=false)→wpList P l.toArray Q (l.drop k) a w→wpAny P .any l.toArray Q f listed a w:=by
 intro f
 induction f with
 | zero =>
  intro k listed a w hkf hmk hsz h1 h2 hw
  have hk:k=l.length:=by omega
  subst hk
  refine ⟨?_,by simpa [wpList] using hw⟩
  apply List.eq_nil_iff_forall_not_mem.2
  intro i hi
  obtain ⟨h3,o,ho,_⟩:=mem_ready.1 hi
  have hi':i<l.length:=by
   have:=(Array.getElem?_eq_some_iff.1 ho).1
   simpa using this
  have:=h1 i hi'
  simp [Array.getD_eq_getD_getElem?] at h3 this
  cases hx:listed[i]? <;> simp [hx] at h3 this
  rw [h3] at this;cases this
 | succ f ih =>
  intro k listed a w hkf hmk hsz h1 h2 hw
  have hkl:k<l.length:=by omega
  have hok:l.toArray[k]?=some l[k]:=by simp [hkl]
  have hgd:∀ i,i<l.length→listed.getD i true=listed.getD i false:=fun i hi=>by
   have:i<listed.size:=by omega
   simp [Array.getD_eq_getD_getElem?,this]
  have hready:k ∈ Region.ready .any l.toArray listed:=by
   refine mem_ready.2 ⟨by rw [hgd k hkl];exact h2 k (Nat.le_refl _),l[k],hok,fun e he hb=>h1 _ ?_⟩
   exact hback k l[k] (List.getElem?_eq_getElem hkl) e.on (mem_edgesTo.2 ⟨e,he,hb,rfl⟩)
  refine ⟨fun h=>(by rw [h] at hready;cases hready),fun i hi=>?_⟩
  obtain ⟨h3,o,ho,hall⟩:=mem_ready.1 hi
  have hil:i<l.length:=by
   have:=(Array.getElem?_eq_some_iff.1 ho).1
   simpa using this
  have hol:l[i]?=some o:=by simpa using ho
  rw [hgd i hil] at h3
  have hik:i=k:=by
   rcases Nat.lt_trichotomy i k with h4 | h4 | h4
   ·rw [h1 i h4] at h3;cases h3
   ·exact h4
   ·exfalso
    have hcl:∀ j oj,l[j]?=some oj→(listed.getD j false=true)→∀ e ∈ edgesTo oj,listed.getD e false=true:=by
     intro j oj hj hl e he
     have hlt:j<k:=by
      rcases Nat.lt_or_ge j k with h5 | h5
      ·exact h5
      ·rw [h2 j h5] at hl;cases hl
     have:=hback j oj hj e he
     exact h1 e (by omega)
    have:=masks_spec (l:=l) (L:=fun j=>listed.getD j false=true) hcl l [] [] rfl rfl (fun j _ hj=>by simp at hj) i o hol
     (fun e he=>by obtain ⟨e',h5,h6,h7⟩:=mem_edgesTo.1 he;subst h7;exact hall e' h5 h6) k (hlast i (by omega) hil k h4)
    rw [h2 k (Nat.le_refl _)] at this
    cases this
  subst hik
  have hoo:o=l[i]:=by rw [List.getElem?_eq_getElem hil] at hol;exact (Option.some.inj hol).symm
  rw [List.drop_eq_getElem_cons hil,← hoo] at hw
  unfold wpOp
  simp only [ho]
  unfold wpList at hw
  have next:∀ a w,wpList P l.toArray Q (l.drop (i+1)) a w→wpAny P .any l.toArray Q f (listed.setIfInBounds i true) a w:=by
   intro a w hw
   refine ih (i+1) _ a w (by omega) (by omega) (by simpa using hsz) ?_ ?_ hw
   ·intro j hj
    by_cases e:j=i
    ·subst e;simp [Array.getD_eq_getD_getElem?,hsz,hil]
    ·have:=h1 j (by omega)
     simp only [Array.getD_eq_getD_getElem?] at this ⊢
     rw [Array.getElem?_setIfInBounds_ne (fun e'=>e e'.symm)]
     exact this
   ·intro j hj
    have:=h2 j (by omega)
    simp only [Array.getD_eq_getD_getElem?] at this ⊢
    rw [Array.getElem?_setIfInBounds_ne (by omega)]
    exact this
  split
  ·rename_i hwant
   rw [if_pos hwant] at hw
   rcases hw with hw | hw
   ·exact .inl (Oper.wp_mono next hw)
   ·exact .inr hw
  ·rename_i hwant
   rw [if_neg hwant] at hw
   exact next _ _ hw
structure InvA (P:Program) (n:Nat) (l:List Oper) (m:Nat) (S:List (Nat×Psi)) (E:List (Nat×Value)) (w0:World) (listed:Array Bool) (a:Act) (w:World):Prop where
 size:listed.size=l.length
 closed:∀ i o,l[i]?=some o→listed.getD i false=true→∀ e ∈ edgesTo o,listed.getD e false=true
 tmps:a.tmps.size=n
 defers:a.defers=[]
 base:∀ k v,look E k=some v→a.tmps[k]?=some v
 facts:∀ i o d ψ,i<m→l[i]?=some o→listed.getD i false=true→o.dst=some d→lookP S d=some ψ→∃ v,a.tmps[d]?=some v∧ψ v w
 ext:Ext w0 w
 noB:∀ i,m≤i→listed.getD i false=false
 made:∀ i o d,i<m→l[i]?=some o→listed.getD i false=true→isAlloc o.op=true→o.dst=some d→∃ b,a.tmps[d]?=some (.pointer (some ⟨b,0,none⟩))∧b<w.heap.size
 apart:∀ i j oi oj di dj v,i<m→j<m→i≠j→l[i]?=some oi→l[j]?=some oj→listed.getD i false=true→listed.getD j false=true→isAlloc oi.op=true→isAlloc oj.op=true→oi.dst=some di→oj.dst=some dj→a.tmps[di]?=some v→a.tmps[dj]?=some v→False
theorem mem_allocs {t:Nat}:∀ {l:List Oper},t ∈ allocs l→∃ (i:Nat) (o:Oper),l[i]?=some o∧isAlloc o.op=true∧o.dst=some t:=by
 intro l
 induction l with
 | nil=>intro h;cases h
 | cons o r ih =>
  intro h
  unfold allocs at h
  split at h
  ·rename_i d hd
   cases hb:isAlloc o.op with
   | true =>
    rw [hb] at h
    simp only [cond_true,List.mem_cons] at h
    rcases h with rfl | h
    ·exact ⟨0,o,rfl,hb,hd⟩
    ·obtain ⟨i,o',h1,h2,h3⟩:=ih h
     exact ⟨i+1,o',by simpa using h1,h2,h3⟩
   | false =>
    rw [hb] at h
    simp only [cond_false] at h
    obtain ⟨i,o',h1,h2,h3⟩:=ih h
    exact ⟨i+1,o',by simpa using h1,h2,h3⟩
  ·obtain ⟨i,o',h1,h2,h3⟩:=ih h
   exact ⟨i+1,o',by simpa using h1,h2,h3⟩
theorem lookP_mem {S:List (Nat×Psi)} {t:Nat}:t ∈ S.map (·.1)→∃ ψ,lookP S t=some ψ:=by
 induction S with
 | nil=>intro h;cases h
 | cons p r ih =>
  obtain ⟨k,ψ⟩:=p
  intro h
  by_cases e:k=t
  ·subst e;exact ⟨ψ,by simp [lookP]⟩
  ·have hb:Nat.beq k t=false:=by
    cases hb:Nat.beq k t
    ·rfl
    ·exact absurd (Nat.eq_of_beq_eq_true hb) e
   simp only [List.map_cons,List.mem_cons] at h
   obtain ⟨φ,hφ⟩:=ih (h.resolve_left (fun x=>e x.symm))
   exact ⟨φ,by simp [lookP,hb,hφ]⟩
theorem lookP_in {S:List (Nat×Psi)} {t:Nat} {ψ:Psi}:lookP S t=some ψ→(t,ψ) ∈ S:=by
 induction S with
 | nil=>intro h;simp [lookP] at h
 | cons p r ih =>
  obtain ⟨k,φ⟩:=p
  intro h
  by_cases e:k=t
  ·subst e;simp [lookP] at h;subst h;simp
  ·have hb:Nat.beq k t=false:=by
    cases hb:Nat.beq k t
    ·rfl
    ·exact absurd (Nat.eq_of_beq_eq_true hb) e
   simp [lookP,hb] at h
   exact List.mem_cons_of_mem _ (ih h)
theorem monoP_spec:∀ {S:List (Nat×Psi)},monoP S→∀ {t:Nat} {ψ:Psi},lookP S t=some ψ→∀ v w w',Ext w w'→ψ v w→ψ v w':=by
 intro S
 induction S with
 | nil=>intro _ t ψ h;simp [lookP] at h
 | cons p r ih =>
  obtain ⟨k,φ⟩:=p
  intro hm t ψ h
  by_cases e:k=t
  ·subst e;simp [lookP] at h;subst h;exact hm.1
  ·have hb:Nat.beq k t=false:=by
    cases hb:Nat.beq k t
    ·rfl
    ·exact absurd (Nat.eq_of_beq_eq_true hb) e
   simp [lookP,hb] at h
   exact ih hm.2 h
theorem obl_spec {n:Nat} {S:List (Nat×Psi)} {w:World} {a:Act} {k:List (Nat×Value)→Prop} (hsz:a.tmps.size=n) (hdf:a.defers=[]):∀ (ts:List Nat) (E:List (Nat×Value)),(∀ k v,look E k=some v→a.tmps[k]?=some v) →
  (∀ t ∈ ts,∀ ψ,lookP S t=some ψ→∃ v,a.tmps[t]?=some v∧ψ v w)→obl S ts E w k→∃ E2,Fits n E2 a∧k E2:=by
 intro ts
 induction ts with
 | nil=>intro E hE _ h;exact ⟨E,⟨hsz,hdf,hE⟩,h⟩
 | cons t r ih =>
  intro E hE hf h
  simp only [obl] at h
  split at h
  ·rename_i ψ hψ
   obtain ⟨v,hv,hp⟩:=hf t (by simp) ψ hψ
   refine ih ((t,v)::E) ?_ (fun t' ht'=>hf t' (by simp [ht'])) (h v hp)
   intro k' u hk
   by_cases e:t=k'
   ·subst e;rw [look_cons_self] at hk;cases hk;exact hv
   ·rw [look_cons_ne _ _ e] at hk;exact hE k' u hk
  ·exact ih E hE (fun t' ht'=>hf t' (by simp [ht'])) h
theorem allP_spec {n:Nat} {w:World} {a:Act} {k:List (Nat×Value)→Prop} (hsz:a.tmps.size=n) (hdf:a.defers=[]):∀ (S:List (Nat×Psi)) (E:List (Nat×Value)),(∀ k v,look E k=some v→a.tmps[k]?=some v) →
  (∀ t ψ,(t,ψ) ∈ S→∃ v,a.tmps[t]?=some v∧ψ v w)→allP S E w k→∃ E2,Fits n E2 a∧k E2:=by
 intro S
 induction S with
 | nil=>intro E hE _ h;exact ⟨E,⟨hsz,hdf,hE⟩,h⟩
 | cons p r ih =>
  obtain ⟨t,ψ⟩:=p
  intro E hE hf h
  obtain ⟨v,hv,hp⟩:=hf t ψ (by simp)
  refine ih ((t,v)::E) ?_ (fun t' ψ' ht'=>hf t' ψ' (by simp [ht'])) (h v hp)
  intro k' u hk
  by_cases e:t=k'
  ·subst e;rw [look_cons_self] at hk;cases hk;exact hv
  ·rw [look_cons_ne _ _ e] at hk;exact hE k' u hk
theorem steps_spec {P:Program} {n:Nat} {l:List Oper} {S:List (Nat×Psi)} {E:List (Nat×Value)} {w:World}:∀ {r:List Oper},steps P n l S E w r→∀ o ∈ r,
  ∀ w1,Ext w w1→obl S (looks l o) E w1 (fun E2=>OpG P n l.toArray o E2 w1 (After o S w1)):=by
 intro r
 induction r with
 | nil=>intro _ o ho;cases ho
 | cons x r ih =>
  intro h o ho
  rcases List.mem_cons.1 ho with rfl | ho
  ·exact h.1
  ·exact ih h.2 o ho
def nodupKeys:List Nat→Bool
 | []=>true
 | x::r=>!(r.contains x) && nodupKeys r
theorem lookP_of_in {S:List (Nat×Psi)} (hn:nodupKeys (S.map (·.1))=true) {t:Nat} {ψ:Psi} (h:(t,ψ) ∈ S):lookP S t=some ψ:=by
 induction S with
 | nil=>cases h
 | cons p r ih =>
  obtain ⟨k,φ⟩:=p
  simp only [List.map_cons,nodupKeys,Bool.and_eq_true] at hn
  rcases List.mem_cons.1 h with h | h
  ·cases h;simp [lookP]
  ·have e:k≠t:=by
    intro e;subst e
    have:k ∈ r.map (·.1):=List.mem_map.2 ⟨_,h,rfl⟩
    simp at hn
    exact hn.1 _ h
   have hb:Nat.beq k t=false:=by
    cases hb:Nat.beq k t
    ·rfl
    ·exact absurd (Nat.eq_of_beq_eq_true hb) e
   simp only [lookP,hb,cond_false]
   exact ih hn.2 h
theorem stageA {P:Program} {n:Nat} {l:List Oper} {m:Nat} {S:List (Nat×Psi)} {E:List (Nat×Value)} {w0:World} {Q:Exit→Act→World→Prop} (hD:DrawOk l m (S.map (·.1))) (hmono:monoP S) (hfree:∀ d ∈ S.map (·.1),look E d=none)
  (hlt:∀ d ∈ S.map (·.1),d<n) (hsteps:steps P n l S E w0 (l.take m)) (hnd:nodupKeys (S.map (·.1))=true)
  (hend:∀ w1,Ext w0 w1→allP S E w1 (fun E2=>Dist (allocs (l.take m)) E2→StL P n E2 w1 l.toArray (l.drop m) Q)) :
  ∀ (f:Nat) (U:List Nat) (listed:Array Bool) (a:Act) (w:World),f=(l.length - m)+U.length→U.Nodup→(∀ i,i ∈ U↔i<m∧listed.getD i false=false)→InvA P n l m S E w0 listed a w→wpAny P .any l.toArray Q f listed a w:=by
 have hdist:∀ {listed:Array Bool} {a:Act} {w:World},(∀ i,i ∈ ([]:List Nat)↔i<m∧listed.getD i false=false)→InvA P n l m S E w0 listed a w→∀ E2,Fits n E2 a→Dist (allocs (l.take m)) E2:=by
  intro listed a w hmem hI E2 hfit t ht t' ht' hne v hv hv'
  obtain ⟨i,oi,hi,hai,hdi⟩:=mem_allocs ht
  obtain ⟨j,oj,hj,haj,hdj⟩:=mem_allocs ht'
  have him:i<m:=by have:=(List.getElem?_eq_some_iff.1 hi).1;simp at this;omega
  have hjm:j<m:=by have:=(List.getElem?_eq_some_iff.1 hj).1;simp at this;omega
  rw [List.getElem?_take_of_lt him] at hi
  rw [List.getElem?_take_of_lt hjm] at hj
  have hL:∀ i,i<m→listed.getD i false=true:=fun i hi=>by
   cases hx:listed.getD i false with
   | true=>rfl
   | false=>have:=(hmem i).2 ⟨hi,hx⟩;cases this
  refine hI.apart i j oi oj t t' v him hjm ?_ hi hj (hL i him) (hL j hjm) hai haj hdi hdj (hfit.slots t v hv) (hfit.slots t' v hv')
  intro e;subst e
  rw [hi] at hj;cases hj
  rw [hdi] at hdj;cases hdj
  exact hne rfl
 intro f
 induction f with
 | zero =>
  intro U listed a w hf hU hmem hI
  have hm:m=l.length:=by have:=hD.le;omega
  have h0:U=[]:=List.eq_nil_of_length_eq_zero (by omega)
  subst h0
  refine stageB hD.back hD.last 0 m listed a w (by omega) (Nat.le_refl _) hI.size ?_ hI.noB ?_
  ·intro i hi
   cases hx:listed.getD i false with
   | true=>rfl
   | false=>have:=(hmem i).2 ⟨hi,hx⟩;cases this
  ·obtain ⟨E2,hfit,hst⟩:=allP_spec hI.tmps hI.defers S E hI.base (fun t ψ ht=>by
    obtain ⟨j,oj,hj,hoj,hdj⟩:=hD.src t (List.mem_map.2 ⟨_,ht,rfl⟩)
    have hl:listed.getD j false=true:=by
     cases hx:listed.getD j false with
     | true=>rfl
     | false=>have:=(hmem j).2 ⟨hj,hx⟩;cases this
    exact hI.facts j oj t ψ hj hoj hl hdj (lookP_of_in hnd ht)) (hend w hI.ext)
   exact hst (hdist hmem hI E2 hfit) a hfit
 | succ f ih =>
  intro U listed a w hf hU hmem hI
  by_cases h0:U=[]
  ·subst h0
   refine stageB hD.back hD.last (f+1) m listed a w (by have:=hD.le;simp at hf;omega) (Nat.le_refl _) hI.size ?_ hI.noB ?_
   ·intro i hi
    cases hx:listed.getD i false with
    | true=>rfl
    | false=>have:=(hmem i).2 ⟨hi,hx⟩;cases this
   ·obtain ⟨E2,hfit,hst⟩:=allP_spec hI.tmps hI.defers S E hI.base (fun t ψ ht=>by
     obtain ⟨j,oj,hj,hoj,hdj⟩:=hD.src t (List.mem_map.2 ⟨_,ht,rfl⟩)
     have hl:listed.getD j false=true:=by
      cases hx:listed.getD j false with
      | true=>rfl
      | false=>have:=(hmem j).2 ⟨hj,hx⟩;cases this
     exact hI.facts j oj t ψ hj hoj hl hdj (lookP_of_in hnd ht)) (hend w hI.ext)
    exact hst (hdist hmem hI E2 hfit) a hfit
  ·have hgd:∀ i,i<l.length→listed.getD i true=listed.getD i false:=fun i hi=>by
    have:i<listed.size:=by have:=hI.size;omega
    simp [Array.getD_eq_getD_getElem?,this]
   have hclo:∀ (i:Nat) (o:Oper),l[i]?=some o→(∀ e ∈ edgesTo o,listed.getD e false=true)→∀ j,((masks [] l).getD i 0).testBit j=true→listed.getD j false=true :=
    masks_spec (l:=l) (L:=fun j=>listed.getD j false=true) hI.closed l [] [] rfl rfl (fun j _ hj=>by simp at hj)
   constructor
   ·intro hr
    exfalso
    obtain ⟨x,hx⟩:=List.exists_mem_of_ne_nil U h0
    have hleast:∀ b,∀ i,i<b→i<m→listed.getD i false=false→∃ i0,i0<m∧listed.getD i0 false=false∧∀ j,j<i0→listed.getD j false=true:=by
     intro b
     induction b with
     | zero=>intro i hi;omega
     | succ b ihb =>
      intro i hi him hil
      by_cases hall:∀ j,j<i→listed.getD j false=true
      ·exact ⟨i,him,hil,hall⟩
      ·have:∃ j,j<i∧listed.getD j false=false:=by
        apply Classical.byContradiction
        intro hne
        apply hall
        intro j hj
        cases hx:listed.getD j false with
        | true=>rfl
        | false=>exact absurd ⟨j,hj,hx⟩ hne
       obtain ⟨j,hj,hjl⟩:=this
       exact ihb j (by omega) (by omega) hjl
    obtain ⟨i0,hi0,hl0,hbef⟩:=hleast (x+1) x (by omega) ((hmem x).1 hx).1 ((hmem x).1 hx).2
    have hi0l:i0<l.length:=by have:=hD.le;omega
    have:i0 ∈ Region.ready .any l.toArray listed:=by
     refine mem_ready.2 ⟨by rw [hgd i0 hi0l];exact hl0,l[i0],by simp [hi0l],fun e he hb=>hbef _ ?_⟩
     exact hD.back i0 l[i0] (List.getElem?_eq_getElem hi0l) e.on (mem_edgesTo.2 ⟨e,he,hb,rfl⟩)
    rw [hr] at this
    cases this
   ·intro i hi
    obtain ⟨h3,o,ho,hall⟩:=mem_ready.1 hi
    have hil:i<l.length:=by
     have:=(Array.getElem?_eq_some_iff.1 ho).1
     simpa using this
    have hol:l[i]?=some o:=by simpa using ho
    rw [hgd i hil] at h3
    have hedges:∀ e ∈ edgesTo o,listed.getD e false=true:=fun e he=>by
     obtain ⟨e',h5,h6,h7⟩:=mem_edgesTo.1 he;subst h7;exact hall e' h5 h6
    have him:i<m:=by
     rcases Nat.lt_or_ge i m with h | h
     ·exact h
     ·exfalso
      obtain ⟨x,hx⟩:=List.exists_mem_of_ne_nil U h0
      have hxm:=(hmem x).1 hx
      have:=hclo i o hol hedges x (hD.last i h hil x (by omega))
      rw [hxm.2] at this
      cases this
    obtain ⟨d,hd,hdS⟩:=hD.dst i o him hol
    obtain ⟨ψ,hψ⟩:=lookP_mem hdS
    have hob:=steps_spec hsteps o (by
     have:(l.take m)[i]?=some o:=by rw [List.getElem?_take_of_lt him];exact hol
     exact List.mem_of_getElem? this) w hI.ext
    obtain ⟨E2,hfit,hop⟩:=obl_spec hI.tmps hI.defers (looks l o) E hI.base (fun t ht φ hφ=>by
     obtain ⟨j,oj,hj,hoj,hdj,hje⟩:=hD.pred i o him hol t ht (List.mem_map.2 ⟨_,lookP_in hφ,rfl⟩)
     exact hI.facts j oj t φ hj hoj (hedges j hje) hdj hφ) hob
    have hdn:d<n:=hlt d hdS
    have next:∀ v w2,After o S w v w2→wpAny P .any l.toArray Q f (listed.setIfInBounds i true) (a.put o.dst v) w2:=by
     rintro v w2 ⟨hx2,hpsi,hnew⟩
     have hiU:i ∈ U:=(hmem i).2 ⟨him,h3⟩
     have hset:∀ j,(listed.setIfInBounds i true).getD j false=if j=i then true else listed.getD j false:=by
      intro j
      simp only [Array.getD_eq_getD_getElem?]
      by_cases e:j=i
      ·subst e;simp [hI.size,hil]
      ·rw [Array.getElem?_setIfInBounds_ne (fun e'=>e e'.symm),if_neg e]
     refine ih (U.erase i) _ _ w2 ?_ (hU.erase i) ?_ ⟨by simpa using hI.size,?_,?_,?_,?_,?_,hI.ext.trans hx2,?_,?_,?_⟩
     ·have hpos:0<U.length:=List.length_pos_of_mem hiU
      rw [List.length_erase_of_mem hiU];omega
     ·intro j
      rw [hU.mem_erase_iff,hset]
      constructor
      ·rintro ⟨hne,hj⟩
       rw [if_neg hne]
       exact (hmem j).1 hj
      ·rintro ⟨hj,hj2⟩
       by_cases e:j=i
       ·rw [if_pos e] at hj2;cases hj2
       ·rw [if_neg e] at hj2;exact ⟨e,(hmem j).2 ⟨hj,hj2⟩⟩
     ·intro j oj hj hjl e he
      rw [hset] at hjl ⊢
      by_cases e1:e=i
      ·rw [if_pos e1]
      ·rw [if_neg e1]
       by_cases e2:j=i
       ·subst e2
        rw [hol] at hj;cases hj
        exact hedges e he
       ·rw [if_neg e2] at hjl
        exact hI.closed j oj hj hjl e he
     ·simp [hd,Act.put,hI.tmps]
     ·simp [hd,Act.put,hI.defers]
     ·intro k u hk
      have hne:d≠k:=fun e=>by
       subst e
       rw [hfree d hdS] at hk
       cases hk
      simp only [hd,Act.put]
      rw [Array.getElem?_setIfInBounds_ne hne]
      exact hI.base k u hk
     ·intro j oj d' φ hj hoj hjl hd' hφ
      rw [hset] at hjl
      by_cases e:j=i
      ·subst e
       rw [hol] at hoj;cases hoj
       rw [hd] at hd';cases hd'
       refine ⟨v,?_,hpsi d φ hd hφ⟩
       simp [hd,Act.put,hI.tmps,hdn]
      ·rw [if_neg e] at hjl
       obtain ⟨u,hu,hφu⟩:=hI.facts j oj d' φ hj hoj hjl hd' hφ
       have hne:d≠d':=fun e'=>e (hD.inj j i oj o hj him hoj hol (by rw [hd',hd,e']))
       refine ⟨u,?_,monoP_spec hmono hφ u w w2 hx2 hφu⟩
       simp only [hd,Act.put]
       rw [Array.getElem?_setIfInBounds_ne hne]
       exact hu
     ·intro j hj
      rw [hset,if_neg (by omega)]
      exact hI.noB j hj
     ·intro j oj d' hj hoj hjl hal hd'
      rw [hset] at hjl
      by_cases e:j=i
      ·subst e
       rw [hol] at hoj;cases hoj
       rw [hd] at hd';cases hd'
       obtain ⟨b,rfl,_,hb⟩:=hnew hal
       exact ⟨b,by simp [hd,Act.put,hI.tmps,hdn],hb⟩
      ·rw [if_neg e] at hjl
       obtain ⟨b,hb,hbl⟩:=hI.made j oj d' hj hoj hjl hal hd'
       have hne:d≠d':=fun e'=>e (hD.inj j i oj o hj him hoj hol (by rw [hd',hd,e']))
       refine ⟨b,?_,Nat.lt_of_lt_of_le hbl hx2.size⟩
       simp only [hd,Act.put]
       rw [Array.getElem?_setIfInBounds_ne hne]
       exact hb
     ·-- the new one is not an old one
      have hold:∀ j oj d' u,j<m→j≠i→l[j]?=some oj→listed.getD j false=true→isAlloc oj.op=true→oj.dst=some d'→(a.put o.dst v).tmps[d']?=some u→a.tmps[d']?=some u∧∃ b,u=.pointer (some ⟨b,0,none⟩)∧b<w.heap.size:=by
       intro j oj d' u hj hne hoj hjl hal hd' hu
       obtain ⟨b,hb,hbl⟩:=hI.made j oj d' hj hoj hjl hal hd'
       have hne':d≠d':=fun e'=>hne (hD.inj j i oj o hj him hoj hol (by rw [hd',hd,e']))
       simp only [hd,Act.put] at hu
       rw [Array.getElem?_setIfInBounds_ne hne'] at hu
       rw [hb] at hu
       cases hu
       exact ⟨hb,b,rfl,hbl⟩
      have hnewv:isAlloc o.op=true→∀ u,(a.put o.dst v).tmps[d]?=some u→∃ b,u=.pointer (some ⟨b,0,none⟩)∧w.heap.size≤b:=by
       intro hal u hu
       obtain ⟨b,rfl,hb,_⟩:=hnew hal
       have:(a.put o.dst (.pointer (some ⟨b,0,none⟩))).tmps[d]?=some (.pointer (some ⟨b,0,none⟩)):=by simp [hd,Act.put,hI.tmps,hdn]
       rw [this] at hu
       cases hu
       exact ⟨b,rfl,hb⟩
      intro j k oj ok dj dk u hj hk hne hoj hok hjl hkl haj hak hdj hdk huj huk
      rw [hset] at hjl hkl
      by_cases e1:j=i
      ·subst e1
       have e2:¬ k=j:=fun e=>hne e.symm
       rw [if_neg e2] at hkl
       rw [hol] at hoj;cases hoj
       rw [hd] at hdj;cases hdj
       obtain ⟨_,b,hb,hbl⟩:=hold k ok dk u hk e2 hok hkl hak hdk huk
       obtain ⟨b',hb',hbl'⟩:=hnewv haj u huj
       rw [hb] at hb';cases hb'
       omega
      ·rw [if_neg e1] at hjl
       obtain ⟨huj',b,hb,hbl⟩:=hold j oj dj u hj e1 hoj hjl haj hdj huj
       by_cases e2:k=i
       ·subst e2
        rw [hol] at hok;cases hok
        rw [hd] at hdk;cases hdk
        obtain ⟨b',hb',hbl'⟩:=hnewv hak u huk
        rw [hb] at hb';cases hb'
        omega
       ·rw [if_neg e2] at hkl
        obtain ⟨huk',_⟩:=hold k ok dk u hk e2 hok hkl hak hdk huk
        exact hI.apart j k oj ok dj dk u hj hk hne hoj hok hjl hkl haj hak hdj hdk huj' huk'
    unfold wpOp
    simp only [ho]
    rcases hop with ⟨hwant,hop⟩ | ⟨hwant,hop⟩
    ·rw [if_pos (wantE_spec hfit hwant)]
     exact .inl (hop a hfit Q _ next)
    ·rw [if_neg (by rw [wantE_spec hfit hwant];simp)]
     exact next undef w hop
theorem St.draw {P:Program} {n:Nat} {l:List Oper} (m:Nat) (S:List (Nat×Psi)) {E:List (Nat×Value)} {w:World} {Q:Exit→Act→World→Prop} {id:Nat} (hP:P.follows .mixedOrders=true) (hD:drawOk l m (S.map (·.1))=true) (hfree:freeE (S.map (·.1)) E=true)
  (hlt:(S.map (·.1)).all (fun d=>Nat.blt d n)=true) (hnd:nodupKeys (S.map (·.1))=true) (hmono:monoP S) (hsteps:steps P n l S E w (l.take m))
  (hend:∀ w1,Ext w w1→allP S E w1 (fun E2=>Dist (allocs (l.take m)) E2→StL P n E2 w1 l.toArray (l.drop m) Q)):St P n E w (.region id l.toArray true) Q:=by
 intro a ha
 have hD':=drawOk_spec hD
 refine wp_region_any hP ?_
 have hx:Ext w { w with drawn:=w.drawn+1 }:=⟨rfl,rfl,rfl,Nat.le_refl _,fun _ _=>rfl⟩
 have hle:=hD'.le
 have hrep:∀ i,(Array.replicate l.toArray.size false).getD i false=false:=by
  intro i
  simp [Array.getD_eq_getD_getElem?,Array.getElem?_replicate]
  split <;> simp
 refine stageA hD' hmono (freeE_spec hfree) (fun d hd=>by simpa [Nat.blt_eq] using List.all_eq_true.1 hlt d hd) hsteps hnd hend l.toArray.size (List.range m) _ a _ (by simp;omega) List.nodup_range ?_ ⟨by simp,?_,ha.size,ha.defers,ha.slots,?_,hx,?_,?_,?_⟩
 ·intro i
  rw [List.mem_range,hrep]
  simp
 ·intro i o _ h
  rw [hrep] at h;cases h
 ·intro i o d ψ _ _ h
  rw [hrep] at h;cases h
 ·intro i _
  exact hrep i
 ·intro i o d _ _ h
  rw [hrep] at h;cases h
 ·intro i j oi oj di dj v _ _ _ _ _ h
  rw [hrep] at h;cases h
end Go.Qf
namespace Go.Qf
open Go Go.RowKit
def QL (P:Program) (n:Nat) (E:List (Nat×Value)) (w:World) (ops:Array Oper) (l:List Oper) (Q:Exit→Act→World→Prop):Prop :=
 ∀ a,Fits n E a→wpQuiet P ops (fun w'=>∃ m,w'=w.drewN m) (fun a'=>∀ w',(∃ m,w'=w.drewN m)→Q .normal a' w') l a
section
variable {P:Program} {T:List (Nat×TI)} {n:Nat} {E:List (Nat×Value)} {w:World} {Q:Exit→Act→World→Prop} {ops:Array Oper} {rest:List Oper}
theorem QL.nil (h:∀ m,Out n E (w.drewN m) .normal Q):QL P n E w ops [] Q:=fun a ha=>wpQuiet_nil (by rintro w' ⟨m,rfl⟩;exact h m a ha)
theorem QL.step {o:Oper} {d:Nat} {v:Value} (hd:o.dst=some d) (hw:wantE ops E o.guard=some true) (hn:Nat.blt d n=true) (h:∀ m,RunsTo P n o E (w.drewN m) v) (next:QL P n ((d,v)::E) w ops rest Q):QL P n E w ops (o::rest) Q:=by
 intro a ha
 refine wpQuiet_step fun K hK=>?_
 rw [if_pos (wantE_spec ha hw)]
 refine ⟨v,?_,hK _ (next _ (by rw [hd];exact ha.put hn v))⟩
 rintro w' ⟨m,rfl⟩
 unfold Oper.quietAt
 rw [h m a ha]
 exact ⟨rfl,rfl⟩
theorem QL.skip {o:Oper} {d:Nat} (hd:o.dst=some d) (hw:wantE ops E o.guard=some false) (hn:Nat.blt d n=true) (next:QL P n ((d,undef)::E) w ops rest Q):QL P n E w ops (o::rest) Q:=by
 intro a ha
 refine wpQuiet_step fun K hK=>?_
 rw [if_neg (by rw [wantE_spec ha hw];simp)]
 exact hK _ (next _ (by rw [hd];exact ha.put hn undef))
theorem QL.run (hT:TblOk P T):∀ (m:Nat) {E E':List (Nat×Value)} {l l':List Oper},runPure T n ops m E l=(E',l')→QL P n E' w ops l' Q→QL P n E w ops l Q:=by
 intro m
 induction m with
 | zero=>intro E E' l l' h hn;simp only [runPure,Prod.mk.injEq] at h;obtain ⟨rfl,rfl⟩:=h;exact hn
 | succ m ih =>
  intro E E' l l' h hn
  cases l with
  | nil=>simp only [runPure,Prod.mk.injEq] at h;obtain ⟨rfl,rfl⟩:=h;exact hn
  | cons o r =>
   simp only [runPure] at h
   split at h
   ·rename_i d hd hw
    cases hb:Nat.blt d n with
    | false=>rw [hb] at h;simp only [cond_false,Prod.mk.injEq] at h;obtain ⟨rfl,rfl⟩:=h;exact hn
    | true =>
     rw [hb] at h
     simp only [cond_true] at h
     split at h
     ·rename_i v hv
      exact QL.step hd hw hb (fun _=>RunsTo.pure hT hv) (ih h hn)
     ·simp only [Prod.mk.injEq] at h;obtain ⟨rfl,rfl⟩:=h;exact hn
   ·rename_i d hd hw
    cases hb:Nat.blt d n with
    | false=>rw [hb] at h;simp only [cond_false,Prod.mk.injEq] at h;obtain ⟨rfl,rfl⟩:=h;exact hn
    | true =>
     rw [hb] at h
     simp only [cond_true] at h
     exact QL.skip hd hw hb (ih h hn)
   ·simp only [Prod.mk.injEq] at h;obtain ⟨rfl,rfl⟩:=h;exact hn
theorem QL.as (hT:TblOk P T) (m:Nat) {E':List (Nat×Value)} {l l':List Oper} {d:Nat} {v:Value} (v':Value) (h:runPure T n ops m E l=((d,v)::E',l')) (hv:v=v') (hn:QL P n ((d,v')::E') w ops l' Q):QL P n E w ops l Q :=
 QL.run hT m (hv ▸ h) hn
theorem QL.elem (hT:TblOk P T) {d1 d2:Nat} {t u:TypeId} {x i:Operand} {ty ty2:TypeId} {pos pos2:String} {af af2:Array Edge} {g g2:Option (Nat×Bool)} {et:TypeId} {s1 s2:Nat} {z:Value} {ti:TI} {sv:Value} {cs:List Value} {k:IntKind} {iv:Int} (j:Nat) (c:Value)
  (hr:Row et w sv cs) (hc:cs[j]?=some c) (hj:iv=j)
  (ht:lookT T t=some ⟨.slice et,s1,s2,z⟩) (hte:lookT T et=some ti) (hsz:ti.size=1) (hag:isAggD ti.desc=false) (hu:u=et)
  (hx:ov E x=some sv) (hi:ov E i=some (.int k iv)) (hg:wantE ops E g=some true) (hn:Nat.blt d1 n=true) (hn2:Nat.blt d2 n=true) (hg2:∀ p,wantE ops ((d1,p)::E) g2=some true)
  (next:∀ p,QL P n ((d2,c)::(d1,p)::E) w ops rest Q) :
  QL P n E w ops (⟨some d1,.indexAddr t x i,ty,pos,af,g⟩::⟨some d2,.load u (.tmp d1),ty2,pos2,af2,g2⟩::rest) Q:=by
 obtain ⟨a,cap,hsv,hcell⟩:=hr.get hc
 have hlt:j<cs.length:=(List.getElem?_eq_some_iff.1 hc).1
 subst hu
 rw [hsv] at hx
 refine QL.step rfl hg hn (fun m=>RunsTo.indexAddr hT ht hte hsz hx hi (by omega) (by omega)) ?_
 rw [show iv.toNat=j from by omega]
 have hl:ov ((d1,.pointer (some (a.add j)))::E) (.tmp d1)=some (.pointer (some (a.add j))):=look_cons_self _ _ _
 exact QL.step rfl (hg2 _) hn2 (fun m=>RunsTo.load hT hte hag hl hcell) (next _)
theorem St.quiet {id:Nat} {l:List Oper} (hP:P.follows .mixedOrders=true) (hB:Region.lexB .any l.toArray=true) (h:QL P n E w l.toArray l Q):St P n E w (.region id l.toArray true) Q :=
 fun a ha=>wp_region_quiet_lit hP hB (h a ha)
theorem OpG.run {o:Oper} {d:Nat} {ψ:Psi} {S:List (Nat×Psi)} {v:Value} (hd:o.dst=some d) (hS:lookP S d=some ψ) (hal:isAlloc o.op=false) (hw:wantE ops E o.guard=some true) (h:RunsTo P n o E w v) (hψ:ψ v w):OpG P n ops o E w (After o S w):=by
 refine .inl ⟨hw,h.op.mono ?_⟩
 rintro v' w' ⟨rfl,rfl⟩
 refine ⟨Ext.refl _,fun d' φ h1 h2=>?_,fun e=>by rw [hal] at e;cases e⟩
 rw [hd] at h1;cases h1
 rw [hS] at h2;cases h2
 exact hψ
theorem OpG.pure (hT:TblOk P T) {o:Oper} {d:Nat} {ψ:Psi} {S:List (Nat×Psi)} {v:Value} (hd:o.dst=some d) (hS:lookP S d=some ψ) (hal:isAlloc o.op=false) (hw:wantE ops E o.guard=some true) (h:pureOp T E o.op=some v) (hψ:ψ v w):OpG P n ops o E w (After o S w) :=
 OpG.run hd hS hal hw (RunsTo.pure hT h) hψ
theorem OpG.op {o:Oper} {d:Nat} {ψ:Psi} {S:List (Nat×Psi)} {Φ:Value→World→Prop} (hd:o.dst=some d) (hS:lookP S d=some ψ) (hal:isAlloc o.op=false) (hw:wantE ops E o.guard=some true) (h:OpR P n o E w Φ) (hψ:∀ v w',Φ v w'→Ext w w'∧ψ v w'):OpG P n ops o E w (After o S w):=by
 refine .inl ⟨hw,h.mono ?_⟩
 intro v' w' hv
 refine ⟨(hψ v' w' hv).1,fun d' φ h1 h2=>?_,fun e=>by rw [hal] at e;cases e⟩
 rw [hd] at h1;cases h1
 rw [hS] at h2;cases h2
 exact (hψ v' w' hv).2
theorem OpG.call {f:FuncId} {fn:Func} (hF:IsFn P f fn) {d:Nat} {args:Array Operand} {tys:Array TypeId} {ty:TypeId} {pos:String} {af:Array Edge} {g:Option (Nat×Bool)} {vs:List Value} {Φ:Value→World→Prop} {ψ:Psi} {S:List (Nat×Psi)}
  (hS:lookP S d=some ψ) (hw:wantE ops E g=some true) (hargs:ovs E args.toList=some vs) (hc:Calls P f vs.toArray w (Ret Φ)) (hψ:∀ v w',Φ v w'→Ext w w'∧ψ v w') :
  OpG P n ops ⟨some d,.call ⟨.value (.func f),args,tys⟩,ty,pos,af,g⟩ E w (After ⟨some d,.call ⟨.value (.func f),args,tys⟩,ty,pos,af,g⟩ S w) :=
 OpG.op rfl hS rfl hw (OpR.call hF hargs hc) hψ
end
def Is (c:Value):Psi:=fun v _=>v=c
theorem Is.mono (c:Value):∀ v (w w':World),Ext w w'→Is c v w→Is c v w':=fun _ _ _ _ h=>h
end Go.Qf
namespace Go.Qf
open Go Go.RowKit
def placesT (T:List (Nat×TI)):List Field→Option (List (Nat×Nat))
 | []=>some []
 | f::r=>match lookT T f.type,placesT T r with
  | some ti,some ps=>some ((f.offset,ti.size)::ps)
  | _,_=>none
def ovp (E:List (Nat×Value)):List (Nat×Operand)→Option (List (Nat×Value))
 | []=>some []
 | (i,x)::r=>match ov E x,ovp E r with
  | some v,some vs=>some ((i,v)::vs)
  | _,_=>none
section
variable {P:Program} {T:List (Nat×TI)} {n:Nat} {E:List (Nat×Value)} {w:World}
theorem ovp_map {a:Act} (ha:Fits n E a):∀ (xs:List (Nat×Operand)) (vs:List (Nat×Value)),ovp E xs=some vs→xs.map (fun (i,x)=>(i,a.eval x))=vs:=by
 intro xs
 induction xs with
 | nil=>intro vs h;simp only [ovp,Option.some.injEq] at h;subst h;rfl
 | cons p r ih =>
  obtain ⟨i,x⟩:=p
  intro vs h
  simp only [ovp] at h
  split at h
  ·rename_i v us hv hr
   simp only [Option.some.injEq] at h
   subst h
   simp only [List.map_cons,ha.eval hv,ih us hr]
  ·cases h
theorem run_placesT (hT:TblOk P T):∀ (fs:List Field) (ps:List (Nat×Nat)),placesT T fs=some ps→(fs.mapM fun f=>do Pure.pure (f.offset,← sizeOf f.type):Sem (List (Nat×Nat))).run P w=.ok ps w:=by
 intro fs
 induction fs with
 | nil=>intro ps h;simp only [placesT,Option.some.injEq] at h;subst h;simp [go_sem]
 | cons f r ih =>
  intro ps h
  simp only [placesT] at h
  split at h
  ·rename_i ti qs hti hr
   simp only [Option.some.injEq] at h
   subst h
   have h1:=ih qs hr
   simp only [List.mapM_cons,Sem.run_bind,run_sizeOf_T hT hti,Result.andThen_ok,Sem.run_pure,h1]
  ·cases h
theorem RunsTo.build (hT:TblOk P T) {d:Option Tmp} {t:TypeId} {parts:Array (Nat×Operand)} {ty:TypeId} {pos:String} {af:Array Edge} {g:Option (Nat×Bool)} {fs:Array Field} {s1 s2:Nat} {z:Value} {pl:List (Nat×Nat)} {ps:List (Nat×Value)} {cells:Array Value}
  (ht:lookT T t=some ⟨.struct fs,s1,s2,z⟩) (hpl:placesT T fs.toList=some pl) (hps:ovp E parts.toList=some ps) (hf:Instr.fill (fun i=>pl.toArray[i]?) z.cells ps=some cells) :
  RunsTo P n ⟨d,.build t parts,ty,pos,af,g⟩ E w (.agg cells):=by
 intro a ha
 obtain ⟨hu,inf,hi,_,_,hz⟩:=hT t _ ht
 have hm:=ovp_map ha _ _ hps
 have hm2:(parts.map fun (i,x)=>(i,a.eval x)).toList=ps:=by rw [← hm];simp
 have h2:(fs.mapM fun f=>do Pure.pure (f.offset,← sizeOf f.type):Sem (Array (Nat×Nat))).run P w=.ok pl.toArray w:=by
  rw [Array.mapM_eq_mapM_toList]
  have:=run_placesT (P:=P) (w:=w) hT _ _ hpl
  show ((_:Sem (List (Nat×Nat))) >>= fun x=>Pure.pure (List.toArray x)).run P w=_
  simp only [Sem.run_bind,this,Result.andThen_ok,Sem.run_pure]
 generalize a.eval=ρ at hm2
 simp only [execOp,Instr.build,zeroValue,Sem.run_bind,run_typeInfo hi,Result.andThen_ok,hz,Sem.run_pure,run_underlying_T hT ht,h2,hm2,hf]
def resV (T:List (Nat×TI)) (E:List (Nat×Value)) (w:World):ResultVar→Value→Prop
 | .tmp t,v=>look E t=some v
 | .cell a t,v=>∃ b C e ti,look E a=some (.pointer (some ⟨b,0,none⟩))∧Blk e w b C∧lookT T t=some ti∧isAggD ti.desc=true∧C.length=ti.size∧v=.agg C.toArray
def ResOk (T:List (Nat×TI)) (E:List (Nat×Value)) (w:World):List ResultVar→List Value→Prop
 | [],[]=>True
 | r::rs,v::vs=>resV T E w r v∧ResOk T E w rs vs
 | _,_=>False
def oneOf:List Value→Value
 | [v]=>v
 | vs=>.tuple vs.toArray
def resFn (tmps:Array Value):ResultVar→Sem Value
 | .tmp t=>Pure.pure (tmps.getD t undef)
 | .cell a t=>do loadVar t (← asAddr (tmps.getD a undef))
theorem results_eq (fn:Func) (tmps:Array Value):results fn tmps=(do let vs ← fn.results.mapM (resFn tmps);Pure.pure (if h:vs.size=1 then vs[0] else .tuple vs)):=by
 unfold results
 have:(fun x=>match x with | .tmp t=>Pure.pure (tmps.getD t undef) | .cell a t=>do loadVar t (← asAddr (tmps.getD a undef)):ResultVar→Sem Value)=resFn tmps:=by
  funext x;cases x <;> rfl
 exact congrArg (fun f=>(do let vs ← fn.results.mapM f;Pure.pure (if h:vs.size=1 then vs[0] else .tuple vs):Sem Value)) this
theorem run_res (hT:TblOk P T) {a:Act} (ha:Fits n E a):∀ (rs:List ResultVar) (vs:List Value),ResOk T E w rs vs →
  (rs.mapM (resFn a.tmps)).run P w=.ok vs w:=by
 intro rs
 induction rs with
 | nil =>
  intro vs h
  cases vs with
  | nil=>simp [go_sem]
  | cons _ _=>exact h.elim
 | cons r rs ih =>
  intro vs h
  cases vs with
  | nil=>exact h.elim
  | cons v vs =>
   obtain ⟨h1,h2⟩:=h
   have h3:=ih vs h2
   cases r with
   | tmp t =>
    have:a.tmps.getD t undef=v:=by simp [Array.getD_eq_getD_getElem?,ha.slots t v h1]
    simp only [List.mapM_cons,resFn,Sem.run_bind,Sem.run_pure,Result.andThen_ok,this,h3]
   | cell x t =>
    obtain ⟨b,C,e,ti,hl,hb,hti,hag,hlen,rfl⟩:=h1
    have:a.tmps.getD x undef=.pointer (some ⟨b,0,none⟩):=by simp [Array.getD_eq_getD_getElem?,ha.slots x _ hl]
    have hr:=run_loadCellsFrom (P:=P) hb 0 ti.size 0 #[] (by omega)
    have hld:(loadVar t ⟨b,0,none⟩).run P w=.ok (.agg C.toArray) w:=by
     unfold loadVar
     simp only [Sem.run_bind,run_isAgg_T hT hti,hag,Result.andThen_ok,if_true,run_sizeOf_T hT hti,loadCells,hr,Sem.run_pure]
     congr 2
     simp [← hlen]
    have hasA:(asAddr (.pointer (some ⟨b,0,none⟩))).run P w=.ok ⟨b,0,none⟩ w:=by simp [asAddr,go_sem]
    simp only [List.mapM_cons,resFn,Sem.run_bind,this,hasA,Sem.run_pure,Result.andThen_ok,hld,h3]
theorem Out.rets (hT:TblOk P T) {fn:Func} {Φ:Value→World→Prop} {rs:List ResultVar} (vs:List Value) (hr:fn.results=rs.toArray) (h:ResOk T E w rs vs) (hΦ:Φ (oneOf vs) w):Out n E w .ret (bodyPost P fn (Ret Φ)):=by
 intro a ha
 refine bodyPost_ret (v:=oneOf vs) ?_ ha.defers ⟨_,rfl,hΦ⟩
 rw [results_eq,hr,Array.mapM_eq_mapM_toList]
 have:=run_res (P:=P) (w:=w) hT ha rs vs h
 show (((rs.mapM (resFn a.tmps):Sem (List Value)) >>= fun x=>Pure.pure (List.toArray x)) >>= _).run P w=_
 simp only [Sem.run_bind,this,Result.andThen_ok,Sem.run_pure]
 congr 1
 match vs with
 | []=>rfl
 | [v]=>rfl
 | v::u::r =>
  simp [oneOf]
theorem RunsTo.shl {d:Option Tmp} {t t2:TypeId} {x y:Operand} {ty:TypeId} {pos:String} {af:Array Edge} {g:Option (Nat×Bool)} {k k':IntKind} {m s:Int} (j:Nat) (hx:ov E x=some (.int k m)) (hy:ov E y=some (.int k' s)) (hs:s=j) (hj:j≤k.bits) :
  RunsTo P n ⟨d,.binOp .shl t x y t2,ty,pos,af,g⟩ E w (.int k (k.wrap (m * 2 ^ j))):=by
 intro a ha
 have e1:=ha.eval hx
 have e2:=ha.eval hy
 generalize a.eval=ρ at e1 e2
 subst hs
 have en:¬ ((j:Int)<0):=by omega
 have hsh:Op.shift .shl k m k' (j:Int)=Pure.pure (.int k (k.wrap (m * 2 ^ j))):=by
  unfold Op.shift;rw [if_neg en];simp only [Int.toNat_natCast,Nat.min_eq_left hj]
 simp only [execOp,e1,e2,eqGuard,binOp,hsh]
 simp [go_sem]
theorem RunsTo.shr {d:Option Tmp} {t t2:TypeId} {x y:Operand} {ty:TypeId} {pos:String} {af:Array Edge} {g:Option (Nat×Bool)} {k k':IntKind} {m s:Int} (j:Nat) (hx:ov E x=some (.int k m)) (hy:ov E y=some (.int k' s)) (hs:s=j) (hj:j≤k.bits) :
  RunsTo P n ⟨d,.binOp .shr t x y t2,ty,pos,af,g⟩ E w (.int k (m / 2 ^ j)):=by
 intro a ha
 have e1:=ha.eval hx
 have e2:=ha.eval hy
 generalize a.eval=ρ at e1 e2
 subst hs
 have en:¬ ((j:Int)<0):=by omega
 have hp:(0:Int)≤2 ^ j:=Int.le_of_lt (Int.pow_pos (by decide))
 have hsh:Op.shift .shr k m k' (j:Int)=Pure.pure (.int k (m / 2 ^ j)):=by
  unfold Op.shift;rw [if_neg en];simp only [Int.toNat_natCast,Nat.min_eq_left hj,Int.fdiv_eq_ediv_of_nonneg _ hp]
 simp only [execOp,e1,e2,eqGuard,binOp,hsh]
 simp [go_sem]
theorem RunsTo.quo {d:Option Tmp} {t t2:TypeId} {x y:Operand} {ty:TypeId} {pos:String} {af:Array Edge} {g:Option (Nat×Bool)} {k:IntKind} {m s:Int} (hx:ov E x=some (.int k m)) (hy:ov E y=some (.int k s)) (hm:0≤m) (hs:0<s) :
  RunsTo P n ⟨d,.binOp .quo t x y t2,ty,pos,af,g⟩ E w (.int k (k.wrap (m / s))):=by
 intro a ha
 have e1:=ha.eval hx
 have e2:=ha.eval hy
 generalize a.eval=ρ at e1 e2
 have hne:¬ s=0:=by omega
 have ht:m.tdiv s=m / s:=Int.tdiv_eq_ediv_of_nonneg hm
 simp [execOp,e1,e2,eqGuard,binOp,Op.intDiv,hne,ht,go_sem]
theorem RunsTo.rem {d:Option Tmp} {t t2:TypeId} {x y:Operand} {ty:TypeId} {pos:String} {af:Array Edge} {g:Option (Nat×Bool)} {k:IntKind} {m s:Int} (hx:ov E x=some (.int k m)) (hy:ov E y=some (.int k s)) (hm:0≤m) (hs:0<s) :
  RunsTo P n ⟨d,.binOp .rem t x y t2,ty,pos,af,g⟩ E w (.int k (m % s)):=by
 intro a ha
 have e1:=ha.eval hx
 have e2:=ha.eval hy
 generalize a.eval=ρ at e1 e2
 have hne:¬ s=0:=by omega
 have ht:m.tmod s=m % s:=Int.tmod_eq_emod_of_nonneg hm
 simp [execOp,e1,e2,eqGuard,binOp,Op.intDiv,hne,ht,go_sem]
theorem RunsTo.sliceNil (hT:TblOk P T) {d:Option Tmp} {t t2:TypeId} {x:Operand} {ty:TypeId} {pos:String} {af:Array Edge} {g:Option (Nat×Bool)} {et:TypeId} {s1 s2:Nat} {z:Value} {p:Option Addr} {len cap:Nat} (ht:lookT T t=some ⟨.slice et,s1,s2,z⟩) (hx:ov E x=some (.slice p len cap)) :
  RunsTo P n ⟨d,.binOp .eql t x (.const (.slice none 0 0)) t2,ty,pos,af,g⟩ E w (.bool p.isNone):=by
 intro a ha
 have e1:=ha.eval hx
 have e2:a.eval (.const (.slice none 0 0))=.slice none 0 0:=rfl
 generalize a.eval=ρ at e1 e2
 have hu:=(hT t _ ht).1
 have heq:(Op.equal t (.slice p len cap) (.slice none 0 0)).run P w=.ok p.isNone w:=by
  show (Op.equalIn (9999+1) t _ _).run P w=_
  unfold Op.equalIn
  cases p with
  | none=>simp only [Sem.run_bind,run_underlying_T hT ht,Result.andThen_ok,Sem.run_pure,Option.isNone_none]
  | some a0=>simp only [Sem.run_bind,run_underlying_T hT ht,Result.andThen_ok,Sem.run_pure,Option.isNone_some]
 simp only [execOp,e1,e2,eqGuard,binOp,Sem.run_bind,Sem.run_pure]
 simp only [Bool.not_true,Bool.false_eq_true,if_false,Sem.run_pure,Result.andThen_ok,heq]
theorem OpR.pair (hT:TblOk P T) {d:Option Tmp} {t:TypeId} {x y:Operand} {ty:TypeId} {pos:String} {af:Array Edge} {g:Option (Nat×Bool)} {et:TypeId} {s1 s2:Nat} {z:Value} {ti:TI} {k k':IntKind} {m m':Int}
  (ht:lookT T t=some ⟨.slice et,s1,s2,z⟩) (hte:lookT T et=some ti) (hsz:ti.size=1) (hx:ov E x=some (.int k m)) (hy:ov E y=some (.int k' m')) :
  OpR P n ⟨d,.buildSlice t 2 #[(0,x),(1,y)],ty,pos,af,g⟩ E w (fun u w'=>u=.slice (some ⟨w.heap.size,0,none⟩) 2 2∧Blk et w' w.heap.size [.int k m,.int k' m']∧Ext w w'∧w'.heap.size=w.heap.size+1):=by
 intro a ha Q K hK
 obtain ⟨_,inf,hi,hsize,hby,hzero⟩:=hT et ti hte
 have e1:=ha.eval hx
 have e2:=ha.eval hy
 have hrun:(execOp a.eval ⟨d,.buildSlice t 2 #[(0,x),(1,y)],ty,pos,af,g⟩).run P w=.ok (.value (.slice (some ⟨w.heap.size,0,none⟩) 2 2)) (w.alloc (.cells #[.int k m,.int k' m'] et (0,0))):=by
  generalize a.eval=ρ at e1 e2
  simp [execOp,Instr.buildSlice,e1,e2,run_underlying_T hT ht,run_sizeOf_T hT hte,hsz,zeroValue,run_typeInfo hi,hzero,Instr.fill,newRow,go_sem]
 unfold Oper.wp
 rw [hrun,Oper.upon_value]
 exact hK _ _ ⟨rfl,blk_alloc _ _ _,ext_alloc _ _,size_alloc1 _ _⟩
theorem OpR.empty (hT:TblOk P T) {d:Option Tmp} {t:TypeId} {ty:TypeId} {pos:String} {af:Array Edge} {g:Option (Nat×Bool)} {et:TypeId} {s1 s2:Nat} {z:Value} {ti:TI}
  (ht:lookT T t=some ⟨.slice et,s1,s2,z⟩) (hte:lookT T et=some ti) :
  OpR P n ⟨d,.buildSlice t 0 #[],ty,pos,af,g⟩ E w (fun u w'=>u=.slice (some ⟨w.heap.size,0,none⟩) 0 0∧Blk et w' w.heap.size []∧Ext w w'∧w'.heap.size=w.heap.size+1):=by
 intro a ha Q K hK
 have hrun:(execOp a.eval ⟨d,.buildSlice t 0 #[],ty,pos,af,g⟩).run P w=.ok (.value (.slice (some ⟨w.heap.size,0,none⟩) 0 0)) (w.alloc (.cells #[] et (0,0))):=by
  simp [execOp,Instr.buildSlice,run_underlying_T hT ht,run_sizeOf_T hT hte,Instr.fill,newRow,go_sem]
 unfold Oper.wp
 rw [hrun,Oper.upon_value]
 exact hK _ _ ⟨rfl,blk_alloc _ _ _,ext_alloc _ _,size_alloc1 _ _⟩
end
end Go.Qf
namespace Go.Qf
open Go Go.RowKit
section lists
variable {P:Program} {T:List (Nat×TI)} {n:Nat} {E:List (Nat×Value)} {w:World} {Q:Exit→Act→World→Prop} {ops:Array Oper} {rest:List Oper}
theorem StL.elemB (hT:TblOk P T) {d1 d2:Nat} {t u:TypeId} {x i:Operand} {ty ty2:TypeId} {pos pos2:String} {af af2:Array Edge} {g g2:Option (Nat×Bool)} {et:TypeId} {s1 s2:Nat} {z:Value} {ti:TI} {b off len cap:Nat} {C:List Value} {k:IntKind} {iv:Int} (j:Nat) (c:Value)
  (hb:Blk et w b C) (hc:C[off+j]?=some c) (hj:iv=j) (hlt:j<len)
  (ht:lookT T t=some ⟨.slice et,s1,s2,z⟩) (hte:lookT T et=some ti) (hsz:ti.size=1) (hag:isAggD ti.desc=false) (hu:u=et)
  (hx:ov E x=some (.slice (some ⟨b,off,none⟩) len cap)) (hi:ov E i=some (.int k iv)) (hg:wantE ops E g=some true) (hn:Nat.blt d1 n=true) (hn2:Nat.blt d2 n=true) (hg2:∀ p,wantE ops ((d1,p)::E) g2=some true)
  (next:∀ p,StL P n ((d2,c)::(d1,p)::E) w ops rest Q) :
  StL P n E w ops (⟨some d1,.indexAddr t x i,ty,pos,af,g⟩::⟨some d2,.load u (.tmp d1),ty2,pos2,af2,g2⟩::rest) Q:=by
 subst hu
 refine StL.step rfl hg hn (RunsTo.indexAddr hT ht hte hsz hx hi (by omega) (by omega)).op ?_
 rintro p w' ⟨rfl,rfl⟩
 rw [show iv.toNat=j from by omega,addr_add]
 have hl:ov ((d1,.pointer (some ⟨b,off+j,none⟩))::E) (.tmp d1)=some (.pointer (some ⟨b,off+j,none⟩)):=look_cons_self _ _ _
 refine StL.step rfl (hg2 _) hn2 (RunsTo.load hT hte hag hl (hb.cell hc)).op ?_
 rintro c' w' ⟨rfl,rfl⟩
 exact next _
theorem QL.elemB (hT:TblOk P T) {d1 d2:Nat} {t u:TypeId} {x i:Operand} {ty ty2:TypeId} {pos pos2:String} {af af2:Array Edge} {g g2:Option (Nat×Bool)} {et:TypeId} {s1 s2:Nat} {z:Value} {ti:TI} {b off len cap:Nat} {C:List Value} {k:IntKind} {iv:Int} (j:Nat) (c:Value)
  (hb:Blk et w b C) (hc:C[off+j]?=some c) (hj:iv=j) (hlt:j<len)
  (ht:lookT T t=some ⟨.slice et,s1,s2,z⟩) (hte:lookT T et=some ti) (hsz:ti.size=1) (hag:isAggD ti.desc=false) (hu:u=et)
  (hx:ov E x=some (.slice (some ⟨b,off,none⟩) len cap)) (hi:ov E i=some (.int k iv)) (hg:wantE ops E g=some true) (hn:Nat.blt d1 n=true) (hn2:Nat.blt d2 n=true) (hg2:∀ p,wantE ops ((d1,p)::E) g2=some true)
  (next:∀ p,QL P n ((d2,c)::(d1,p)::E) w ops rest Q) :
  QL P n E w ops (⟨some d1,.indexAddr t x i,ty,pos,af,g⟩::⟨some d2,.load u (.tmp d1),ty2,pos2,af2,g2⟩::rest) Q:=by
 subst hu
 refine QL.step rfl hg hn (fun m=>RunsTo.indexAddr hT ht hte hsz hx hi (by omega) (by omega)) ?_
 rw [show iv.toNat=j from by omega,addr_add]
 have hl:ov ((d1,.pointer (some ⟨b,off+j,none⟩))::E) (.tmp d1)=some (.pointer (some ⟨b,off+j,none⟩)):=look_cons_self _ _ _
 exact QL.step rfl (hg2 _) hn2 (fun m=>RunsTo.load hT hte hag hl ((hb.drewN m).cell hc)) (next _)
end lists
end Go.Qf
namespace Go.Qf
open Go Go.RowKit Go.Proofs
set_option maxRecDepth 20000
def SlO (base:Nat) (w:World) (v:Value) (xs:List Nat):Prop:=Own base 139 w v (xs.map u32)∧Lim xs
theorem SlO.sl {base:Nat} {w:World} {v:Value} {xs:List Nat} (h:SlO base w v xs):Sl w v xs:=⟨Own.row h.1,h.2⟩
theorem SlO.ext {base:Nat} {w w':World} {v:Value} {xs:List Nat} (h:SlO base w v xs) (hx:Ext w w'):SlO base w' v xs:=⟨Own.ext h.1 hx,h.2⟩
theorem SlO.nil (base:Nat) (w:World):SlO base w (.slice none 0 0) []:=⟨Own.nil _ _ _,Lim.nil⟩
theorem SlO.mono {base base':Nat} {w:World} {v:Value} {xs:List Nat} (h:SlO base w v xs) (hb:base'≤base):SlO base' w v xs:=by
 refine ⟨⟨h.1.1,?_⟩,h.2⟩
 rcases h.1.2 with h0 | ⟨g,cap,cur,hv,hg,r⟩
 ·exact .inl h0
 ·exact .inr ⟨g,cap,cur,hv,Nat.le_trans hb hg,r⟩
theorem Own.cut {base:Nat} {e:TypeId} {w:World} {v:Value} {cs:List Value} (h:Own base e w v cs) (k:Nat) (hk:k≤cs.length):Own base e w (cutTo v k) (cs.take k):=by
 have e1:(cs.take k).length=k:=by simp;omega
 refine ⟨by simp,?_⟩
 rw [e1]
 rcases h.2 with ⟨hv,h0⟩ | ⟨g,cap,cur,hv,hg,hh,hn,hm,hs,ht⟩
 ·have:k=0:=by omega
  subst this
  exact .inl ⟨by rw [hv];rfl,rfl⟩
 ·refine .inr ⟨g,cap,cur,by rw [hv];rfl,hg,hh,by omega,hm,hs,?_⟩
  rw [← ht]
  simp [List.take_take,Nat.min_eq_left hk]
theorem SlO.cut {base:Nat} {w:World} {v:Value} {xs:List Nat} (h:SlO base w v xs) (k:Nat) (hk:k≤xs.length):SlO base w (cutTo v k) (xs.take k):=by
 refine ⟨?_,h.2.take k⟩
 have:=Own.cut h.1 k (by simpa using hk)
 rwa [← List.map_take] at this
theorem limbs_is_take {xs:List Nat} (h:Lim xs):limbs (val xs)=xs.take (limbs (val xs)).length:=by
 have key:∀ k,k≤xs.length→(∀ j,k≤j→j<xs.length→xs[j]?=some 0)→∃ k',limbs (val xs)=xs.take k'∧k'≤xs.length:=by
  intro k
  induction k with
  | zero=>intro hk hz;exact ⟨0,limbs_take xs h 0 hz hk (.inl rfl),hk⟩
  | succ k ih =>
   intro hk hz
   have hx:xs[k]?=some xs[k]:=by simp
   generalize xs[k]=x at hx
   by_cases h0:x=0
   ·subst h0
    refine ih (by omega) fun j h1 h2=>?_
    by_cases e:j=k
    ·subst e;exact hx
    ·exact hz j (by omega) h2
   ·exact ⟨k+1,limbs_take xs h (k+1) hz hk (.inr ⟨x,by simpa using hx,h0⟩),hk⟩
 obtain ⟨k,hk,hle⟩:=key xs.length (Nat.le_refl _) (fun j h1 h2=>by omega)
 conv=>lhs;rw [hk]
 rw [hk]
 simp [Nat.min_eq_left hle]
theorem SlO.trimmed {base:Nat} {w:World} {v:Value} {xs:List Nat} (h:SlO base w v xs):SlO base w (cutTo v (limbs (val xs)).length) (limbs (val xs)):=by
 have:=h.cut (limbs (val xs)).length (limbs_length_le _ h.2)
 rwa [← limbs_is_take h.2] at this
def IntV (neg:Bool) (sl:Value):Value:=.agg #[.bool neg,sl]
theorem build_spec (w:World) (neg:Bool) (sl:Value) (xs:List Nat) (h:Sl w sl xs) (hlen:xs.length≤1000000000) :
  Calls Tryz.prog 104 #[.bool neg,sl] w (Ret fun r w'=>Ext w w'∧r=if xs=[] then IntV false (.slice none 0 0) else IntV neg sl):=by
 obtain ⟨p,cap,rfl,hcap⟩:=h.form
 refine calls_of_St (args:=[_,_]) Tryz.func104 rfl Tryz.ntmps104 rfl ?_
 refine Nv ?_
 refine .s (OpR.alloc TBok rfl) ?_
 rintro _ w1 ⟨rfl,hb,hx1,_⟩
 refine Nv ?_
 by_cases h0:xs=[]
 ·subst h0
  refine .a 3 (.bool true) rfl rfl ?_
  refine Nv ?_
  refine .cT ?_
  refine Nv ?_
  refine .p (RunsTo.build TBok rfl rfl rfl rfl) ?_
  refine StL.step0 rfl rfl (OpR.store TBok (vs:=[.bool false,.slice none 0 0]) rfl rfl rfl rfl rfl hb (Nat.le_refl _) (by simp [Value.oneCell'])) ?_
  rintro _ w2 ⟨hb2,hu⟩
  refine Nv ?_
  exact Out.rets TBok [IntV false (.slice none 0 0)] rfl ⟨⟨_,_,_,_,rfl,hb2,rfl,rfl,rfl,rfl⟩,trivial⟩ ⟨hx1.then_upd hu (Nat.le_refl _),by simp [oneOf]⟩
 ·have hne:xs.length≠0:=fun e=>h0 (List.eq_nil_of_length_eq_zero e)
  refine .a 3 (.bool false) rfl (by simp;omega) ?_
  refine Nv ?_
  refine .cF ?_
  refine Nv ?_
  refine .r rfl ?_
  refine .p (RunsTo.build TBok rfl rfl rfl rfl) ?_
  refine StL.step0 rfl rfl (OpR.store TBok (vs:=[.bool neg,.slice p xs.length cap]) rfl rfl rfl rfl rfl hb (Nat.le_refl _) (by simp [Value.oneCell'])) ?_
  rintro _ w2 ⟨hb2,hu⟩
  refine Nv ?_
  exact Out.rets TBok [IntV neg (.slice p xs.length cap)] rfl ⟨⟨_,_,_,_,rfl,hb2,rfl,rfl,rfl,rfl⟩,trivial⟩ ⟨hx1.then_upd hu (Nat.le_refl _),by simp [oneOf,h0]⟩
theorem fromWord_spec (w:World) (m:Nat) (hm:m<18446744073709551616) :
  Calls Tryz.prog 106 #[.int .u64 m] w (Ret fun r w'=>Ext w w'∧SlO w.heap.size w' r (limbs m)):=by
 refine calls_of_St (args:=[_]) Tryz.func106 rfl Tryz.ntmps106 rfl ?_
 (iterate 6 refine Nv ?_;try refine .r rfl ?_)
 refine .s (OpR.pair TBok rfl rfl rfl rfl rfl) ?_
 rintro _ w1 ⟨rfl,hb,hx1,_⟩
 have e1:IntKind.u32.wrap (m:Int)=((m % 4294967296:Nat):Int):=by rw [wrap_u32];omega
 have e2:IntKind.u32.wrap ((m:Int) / 2 ^ 32)=((m / 4294967296 % 4294967296:Nat):Int):=by rw [wrap_u32];omega
 rw [e1,e2] at hb
 have hO:SlO w.heap.size w1 (.slice (some ⟨w.heap.size,0,none⟩) 2 2) [m % 4294967296,m / 4294967296 % 4294967296] :=
  ⟨Blk.own hb rfl (Nat.le_refl _) (by decide),lim_two m hm⟩
 refine .s (OpR.call fn_integer_trim rfl (trim_spec w1 _ _ hO.sl (by simp))) ?_
 rintro r w2 ⟨rfl,rfl,_⟩
 (iterate 6 refine Nv ?_;try refine .r rfl ?_)
 refine Out.ret1 rfl rfl ⟨hx1,?_⟩
 have:=hO.trimmed
 rw [val_two m hm] at this ⊢
 exact this
theorem val_take_succ {xs:List Nat} {k x:Nat} (hx:xs[k]?=some x):val (xs.take (k+1))=val (xs.take k)+x * 4294967296 ^ k:=by
 have hlt:k<xs.length:=(List.getElem?_eq_some_iff.1 hx).1
 rw [List.take_succ_eq_append_getElem hlt,val_append]
 have:xs[k]=x:=by
  rw [List.getElem?_eq_getElem hlt] at hx
  exact Option.some.inj hx
 simp [val,this,Nat.min_eq_left (Nat.le_of_lt hlt),Nat.mul_comm]
theorem word_spec (w:World) (v:Value) (xs:List Nat) (h:Sl w v xs) (hlen:xs.length≤2) :
  Calls Tryz.prog 111 #[v] w (Ret fun r w'=>w'=w∧r=.int .u64 (val xs)):=by
 obtain ⟨p,cap,rfl,hcap⟩:=h.form
 refine calls_of_St (args:=[_]) Tryz.func111 rfl Tryz.ntmps111 rfl ?_
 (iterate 6 refine Nv ?_;try refine .r rfl ?_)
 refine St.loop (fun k:Nat=>[(0,.slice p xs.length cap),(3,.int .u64 (val (xs.take k))),(6,.slice p xs.length cap),(7,.int .i64 xs.length),(8,.int .i64 k)]) (fun k w'=>w'=w∧k≤xs.length) (fun k=>xs.length - k) 0 ⟨rfl,rfl,rfl,rfl,rfl,trivial⟩ ⟨rfl,by omega⟩ ?_
 rintro k w' ⟨rfl,hk⟩
 by_cases hlt:k<xs.length
 ·have hx:xs[k]?=some xs[k]:=by simp
  generalize xs[k]=x at hx
  have hxl:=h.2.get hx
  have hv:=val_lt (xs.take k) (h.2.take k)
  have hv2:=val_le_two (h.2.take (k+1)) (by simp;omega)
  have hs:=val_take_succ hx
  refine Nv ?_
  refine .a 1 (.bool true) rfl (bool_true (by omega)) ?_
  refine Nv ?_
  refine .cT ?_
  (iterate 6 refine Nv ?_;try refine .r rfl ?_)
  refine StL.elem TBok k (u32 x) h.1 (h.get hx) rfl rfl rfl rfl rfl rfl rfl rfl rfl rfl rfl (fun _=>rfl) ?_
  intro p1
  (iterate 6 refine Nv ?_;try refine .r rfl ?_)
  refine .p (RunsTo.shl (32 * k) rfl rfl (by rw [i64_id (by omega) (by omega)];omega) (by show 32 * k≤64;omega)) ?_
  have e0:(4294967296:Nat) ^ k=2 ^ (32 * k):=by rw [Nat.pow_mul]
  have hlk:(xs.take k).length=k:=by simp;omega
  rw [hlk,e0] at hv
  rw [e0] at hs
  have e1:IntKind.u64.wrap (IntKind.u64.wrap (x:Int) * 2 ^ (32 * k))=((x * 2 ^ (32 * k):Nat):Int):=by
   rw [u64_id (n:=(x:Int)) (by omega) (by omega),u64_id]
   ·simp
   ·exact Int.mul_nonneg (by omega) (Int.le_of_lt (Int.pow_pos (by decide)))
   ·have:(x:Int) * 2 ^ (32 * k)=((x * 2 ^ (32 * k):Nat):Int):=by simp
    omega
  rw [e1]
  refine .a 1 (.int .u64 (val (xs.take (k+1)))) rfl ?_ ?_
  ·rw [or_u64 _ _ (by omega) (by omega),or_low _ _ _ hv,hs]
  (iterate 6 refine Nv ?_;try refine .r rfl ?_)
  refine Out.again (k+1) ⟨rfl,rfl,rfl,rfl,?_,trivial⟩ ⟨rfl,by omega⟩ (by omega)
  show some (Value.int .i64 (IntKind.i64.wrap ((k:Int)+1)))=_
  rw [i64_id (by omega) (by omega)]
  rfl
 ·have hk':k=xs.length:=by omega
  refine Nv ?_
  refine .a 1 (.bool false) rfl (bool_false (by omega)) ?_
  refine Nv ?_
  refine .cF ?_
  (iterate 6 refine Nv ?_;try refine .r rfl ?_)
  refine Out.ret1 rfl rfl ⟨rfl,?_⟩
  rw [hk',List.take_length]
theorem drop_succ_eq {xs ys:List Nat} {k x:Nat} (hx:xs[k]?=some x) (hy:ys[k]?=some x) (h:xs.drop (k+1)=ys.drop (k+1)):xs.drop k=ys.drop k:=by
 have h1:k<xs.length:=(List.getElem?_eq_some_iff.1 hx).1
 have h2:k<ys.length:=(List.getElem?_eq_some_iff.1 hy).1
 rw [List.getElem?_eq_getElem h1] at hx
 rw [List.getElem?_eq_getElem h2] at hy
 rw [List.drop_eq_getElem_cons h1,List.drop_eq_getElem_cons h2,Option.some.inj hx,Option.some.inj hy,h]
theorem compareNat_aux (w:World) (p q:Option Addr) (c d:Nat) (xs ys:List Nat) (h:Sl w (.slice p xs.length c) xs) (k:Sl w (.slice q ys.length d) ys) (hlen:xs.length≤1000000000) (hl:ys.length≤1000000000)
  (R:Int) (hR:R=if xs.length<ys.length then -1 else if ys.length<xs.length then 1 else cmpN (val xs) (val ys)) :
  Calls Tryz.prog 164 #[.slice p xs.length c,.slice q ys.length d] w (Ret fun r w'=>Ext w w'∧r=.int .i64 R):=by
 refine calls_of_St (args:=[_,_]) Tryz.func164 rfl Tryz.ntmps164 rfl ?_
 (iterate 6 refine Nv ?_;try refine .r rfl ?_)
 by_cases h1:xs.length<ys.length
 ·rw [if_pos h1] at hR
  refine St.condT rfl (by simp;omega) ?_
  (iterate 6 refine Nv ?_;try refine .r rfl ?_)
  exact Out.ret1 rfl rfl ⟨Ext.refl _,by rw [hR]⟩
 rw [if_neg h1] at hR
 refine St.condF rfl (by simp;omega) ?_
 (iterate 6 refine Nv ?_;try refine .r rfl ?_)
 by_cases h2:ys.length<xs.length
 ·rw [if_pos h2] at hR
  refine St.condT rfl (by simp;omega) ?_
  (iterate 6 refine Nv ?_;try refine .r rfl ?_)
  exact Out.ret1 rfl rfl ⟨Ext.refl _,by rw [hR]⟩
 rw [if_neg h2] at hR
 have hll:xs.length=ys.length:=by omega
 refine St.condF rfl (by simp;omega) ?_
 (iterate 6 refine Nv ?_;try refine .r rfl ?_)
 refine St.loop (fun j:Nat=>[(0,.slice p xs.length c),(1,.slice q ys.length d),(5,.int .i64 ((j:Int) - 1))]) (fun j w'=>Ext w w'∧j≤xs.length∧xs.drop j=ys.drop j) (fun j=>j) xs.length ⟨rfl,rfl,?_,trivial⟩ ⟨Ext.refl _,by omega,?_⟩ ?_
 ·show some (Value.int .i64 (IntKind.i64.wrap ((xs.length:Int) - 1)))=_
  rw [i64_id (by omega) (by omega)]
 ·rw [List.drop_length,hll,List.drop_length]
 rintro j w' ⟨hx,hj,heq⟩
 have hA:=h.ext hx
 have hB:=k.ext hx
 by_cases h0:j=0
 ·subst h0
  refine Nv ?_
  refine .a 2 (.bool false) rfl (bool_false (by omega)) ?_
  refine Nv ?_
  refine .cF ?_
  (iterate 6 refine Nv ?_;try refine .r rfl ?_)
  have:xs=ys:=by simpa using heq
  subst this
  exact Out.ret1 rfl rfl ⟨hx,by rw [hR];simp [cmpN]⟩
 ·obtain ⟨i,rfl⟩:∃ i,j=i+1:=⟨j - 1,by omega⟩
  have hxi:xs[i]?=some xs[i]:=by simp
  generalize xs[i]=x at hxi
  have hyi:ys[i]?=some ys[i]:=by simp
  generalize ys[i]=y at hyi
  have e0:(((i+1:Nat):Int) - 1)=(i:Int):=by omega
  rw [e0]
  refine Nv ?_
  refine .a 2 (.bool true) rfl (bool_true (by omega)) ?_
  refine Nv ?_
  refine .cT ?_
  refine Nv ?_
  refine St.quiet TBfol (by kernel_rfl) ?_
  refine .run TBok 99 rfl ?_
  refine QL.elem TBok i (u32 x) hA.1 (hA.get hxi) rfl rfl rfl rfl rfl rfl rfl rfl rfl rfl rfl (fun _=>rfl) ?_
  intro p1
  refine .run TBok 99 rfl ?_
  refine QL.elem TBok i (u32 y) hB.1 (hB.get hyi) rfl rfl rfl rfl rfl rfl rfl rfl rfl rfl rfl (fun _=>rfl) ?_
  intro p2
  refine .run TBok 99 rfl ?_
  refine QL.nil fun m1=>?_
  refine Nv ?_
  by_cases hxy:x<y
  ·refine St.condT rfl (by simp;omega) ?_
   (iterate 6 refine Nv ?_;try refine .r rfl ?_)
   have:=val_lt_of xs ys h.2 hll i x y hxi hyi hxy heq
   exact Out.ret1 rfl rfl ⟨hx.drewN _,by rw [hR];simp [cmpN,this]⟩
  refine St.condF rfl (by simp;omega) ?_
  refine Nv ?_
  refine St.quiet TBfol (by kernel_rfl) ?_
  refine .run TBok 99 rfl ?_
  refine QL.elem TBok i (u32 x) (hA.drewN m1).1 (hA.get hxi) rfl rfl rfl rfl rfl rfl rfl rfl rfl rfl rfl (fun _=>rfl) ?_
  intro p3
  refine .run TBok 99 rfl ?_
  refine QL.elem TBok i (u32 y) (hB.drewN m1).1 (hB.get hyi) rfl rfl rfl rfl rfl rfl rfl rfl rfl rfl rfl (fun _=>rfl) ?_
  intro p4
  refine .run TBok 99 rfl ?_
  refine QL.nil fun m2=>?_
  refine Nv ?_
  by_cases hyx:y<x
  ·refine St.condT rfl (by simp;omega) ?_
   (iterate 6 refine Nv ?_;try refine .r rfl ?_)
   have:=val_lt_of ys xs k.2 hll.symm i y x hyi hxi hyx heq.symm
   exact Out.ret1 rfl rfl ⟨(hx.drewN _).drewN _,by rw [hR];unfold cmpN;rw [if_neg (by omega),if_pos this]⟩
  have hxy':x=y:=by omega
  subst hxy'
  refine St.condF rfl (by simp) ?_
  (iterate 6 refine Nv ?_;try refine .r rfl ?_)
  refine Out.again i ⟨rfl,rfl,?_,trivial⟩ ⟨(hx.drewN _).drewN _,by omega,drop_succ_eq hxi hyi heq⟩ (by omega)
  show some (Value.int .i64 (IntKind.i64.wrap ((i:Int) - 1)))=_
  rw [i64_id (by omega) (by omega)]
theorem compareNat_spec (w:World) (u v:Value) (a b:Nat) (h:Sl w u (limbs a)) (k:Sl w v (limbs b)) (hlen:(limbs a).length≤1000000000) (hl:(limbs b).length≤1000000000) :
  Calls Tryz.prog 164 #[u,v] w (Ret fun r w'=>Ext w w'∧r=.int .i64 (cmpN a b)):=by
 obtain ⟨p,c,rfl,_⟩:=h.form
 obtain ⟨q,d,rfl,_⟩:=k.form
 refine compareNat_aux w p q c d _ _ h k hlen hl _ ?_
 rw [val_limbs,val_limbs]
 split
 ·rename_i h1
  have:=limbs_lt_of_length h1
  simp [cmpN,this]
 ·split
  ·rename_i _ h2
   have:=limbs_lt_of_length h2
   unfold cmpN;rw [if_neg (by omega),if_pos this]
  ·rfl
theorem clone_spec (w:World) (v:Value) (xs:List Nat) (h:Sl w v xs) (hlen:xs.length≤1000000000) :
  Calls Tryz.prog 112 #[v] w (Ret fun r w'=>Ext w w'∧SlO w.heap.size w' r xs):=by
 obtain ⟨p,cap,rfl,hcap⟩:=h.form
 refine calls_of_St (args:=[_]) Tryz.func112 rfl Tryz.ntmps112 rfl ?_
 (iterate 6 refine Nv ?_;try refine .r rfl ?_)
 refine .p (RunsTo.sliceNil TBok rfl rfl) ?_
 refine Nv ?_
 cases p with
 | none =>
  have h0:xs=[]:=by simpa using Row.nil_of h.1
  subst h0
  refine .cT ?_
  (iterate 6 refine Nv ?_;try refine .r rfl ?_)
  exact Out.ret1 rfl rfl ⟨Ext.refl _,SlO.nil _ _⟩
 | some a0 =>
  refine .cF ?_
  refine Nv ?_
  refine .s (OpR.empty TBok rfl rfl) ?_
  rintro _ w1 ⟨rfl,hb,hx1,hs1⟩
  refine .r rfl ?_
  have hown:Own w.heap.size 139 w1 (.slice (some ⟨w.heap.size,0,none⟩) 0 0) []:=Blk.own hb rfl (Nat.le_refl _) (by decide)
  have h1:=h.ext hx1
  refine .s (OpR.append TBok rfl rfl rfl rfl rfl rfl hown h1.1 (by intro c hc;simp at hc;obtain ⟨x,_,rfl⟩:=hc;rfl) (by simp;omega) (by simp;omega) (by omega)) ?_
  rintro r w2 ⟨ho,hg,_⟩
  (iterate 6 refine Nv ?_;try refine .r rfl ?_)
  exact Out.ret1 rfl rfl ⟨hx1.grown hown (Nat.le_refl _) hg,by simpa using ho,h.2⟩
theorem take_set_succ {us:List Nat} {k:Nat} (h:k<us.length) (v:Nat):(us.set k v).take (k+1)=us.take k++[v]:=by
 rw [List.take_succ_eq_append_getElem (by simpa using h)]
 simp [List.take_set_of_le]
theorem val_take_set {us:List Nat} {k:Nat} (h:k<us.length) (v:Nat):val ((us.set k v).take (k+1))=val (us.take k)+v * 4294967296 ^ k:=by
 rw [take_set_succ h,val_append]
 simp [val,Nat.min_eq_left (Nat.le_of_lt h),Nat.mul_comm]
theorem step_add (S X Y D c x y v c':Nat) (h:S+c * D=X+Y) (hv:c+x+y=v+c' * 4294967296):(S+v * D)+c' * (D * 4294967296)=(X+x * D)+(Y+y * D):=by
 have h1:=congrArg (· * D) hv
 simp only [Nat.add_mul] at h1
 have e:c' * 4294967296 * D=c' * (D * 4294967296):=by rw [Nat.mul_assoc,Nat.mul_comm 4294967296]
 omega
theorem map_set_u32 (us:List Nat) (k v:Nat):(us.map u32).set k (u32 v)=(us.set k v).map u32:=by simp
theorem lim_replicate (k:Nat):Lim (List.replicate k 0):=fun x hx=>by
 have:=List.eq_of_mem_replicate hx
 omega
set_option maxHeartbeats 400000 in
theorem addNat_spec (w:World) (u v:Value) (xs ys:List Nat) (h:Sl w u xs) (k:Sl w v ys) (hlen:xs.length≤100000000) (hl:ys.length≤100000000) :
  Calls Tryz.prog 109 #[u,v] w (Ret fun r w'=>Ext w w'∧SlO w.heap.size w' r (limbs (val xs+val ys))):=by
 refine calls_of_St (args:=[_,_]) Tryz.func109 rfl Tryz.ntmps109 rfl ?_
 refine St.seq (St.region (StL.run TBok 99 rfl (StL.nil (Out.then_normal ?_))))
 refine St.cut (fun g:(Value×Value)×List Nat×List Nat=>[(0,g.1.1),(1,g.1.2)]) (fun g w'=>w'=w∧Sl w g.1.1 g.2.1∧Sl w g.1.2 g.2.2∧g.2.1.length≤100000000∧g.2.2.length≤g.2.1.length∧val xs+val ys=val g.2.1+val g.2.2) ?_ ?_
 ·obtain ⟨p,c,rfl,_⟩:=h.form
  obtain ⟨q,d,rfl,_⟩:=k.form
  (iterate 6 refine Nv ?_;try refine .r rfl ?_)
  by_cases h1:xs.length<ys.length
  ·refine St.condT rfl (by simp;omega) ?_
   refine Nv ?_
   refine .r rfl ?_
   refine StL.nil (Out.met ((_,_),ys,xs) ⟨rfl,rfl,trivial⟩ ⟨rfl,k,h,hl,by simp;omega,Nat.add_comm _ _⟩)
  ·refine St.condF rfl (by simp;omega) ?_
   refine St.skip (Out.met ((_,_),xs,ys) ⟨rfl,rfl,trivial⟩ ⟨rfl,h,k,hlen,by simp;omega,rfl⟩)
 rintro ⟨⟨u',v'⟩,xs',ys'⟩ w' ⟨rfl,h',k',hlen',hll,hsum⟩
 rw [hsum]
 clear hsum h k hlen hl xs ys u v
 simp only at h' k' hlen' hll
 obtain ⟨p,c,rfl,_⟩:=h'.form
 obtain ⟨q,d,rfl,_⟩:=k'.form
 (iterate 6 refine Nv ?_;try refine .r rfl ?_)
 refine .s (OpR.make TBok (xs'.length+1) rfl rfl rfl rfl rfl (by rw [i64_id (by omega) (by omega)];omega) rfl (by rw [i64_id (by omega) (by omega)];omega) (by simp;omega) (by omega)) ?_
 rintro _ w1 ⟨rfl,hb1,hx1,_⟩
 (iterate 6 refine Nv ?_;try refine .r rfl ?_)
 refine St.loop (fun g:Nat×Nat×List Nat=>[(0,.slice p xs'.length c),(1,.slice q ys'.length d),(5,.slice (some ⟨w'.heap.size,0,none⟩) (xs'.length+1) (xs'.length+1)),(6,.int .u64 g.2.1),(21,.int .i64 ys'.length),(22,.int .i64 g.1)])
  (fun g w2=>Ext w' w2∧Blk 139 w2 w'.heap.size (g.2.2.map u32)∧g.2.2.length=xs'.length+1∧Lim g.2.2∧g.2.1≤1∧g.1≤ys'.length∧val (g.2.2.take g.1)+g.2.1 * 4294967296 ^ g.1=val (xs'.take g.1)+val (ys'.take g.1))
  (fun g=>ys'.length - g.1) (0,0,List.replicate (xs'.length+1) 0) ⟨rfl,rfl,rfl,rfl,rfl,rfl,trivial⟩ ⟨hx1,by rw [List.map_replicate];exact hb1,by simp,lim_replicate _,by simp,by simp,by simp [val]⟩ ?_
 rintro ⟨j,cy,us⟩ w2 ⟨hx2,hb2,hul,hulim,hcy,hj,heq⟩
 simp only at hb2 hul hulim hcy hj heq
 have hA:=h'.ext hx2
 have hB:=k'.ext hx2
 by_cases hlt:j<ys'.length
 ·have hxi:xs'[j]?=some xs'[j]:=by simp
  generalize xs'[j]=x at hxi
  have hyi:ys'[j]?=some ys'[j]:=by simp
  generalize ys'[j]=y at hyi
  have hxl:=h'.2.get hxi
  have hyl:=k'.2.get hyi
  refine Nv ?_
  refine .a 1 (.bool true) rfl (bool_true (by omega)) ?_
  refine Nv ?_
  refine .cT ?_
  refine Nv ?_
  refine .r rfl ?_
  refine Nv ?_
  refine St.quiet TBfol (by kernel_rfl) ?_
  refine .run TBok 99 rfl ?_
  refine QL.elem TBok j (u32 x) hA.1 (hA.get hxi) rfl rfl rfl rfl rfl rfl rfl rfl rfl rfl rfl (fun _=>rfl) ?_
  intro p1
  refine .run TBok 99 rfl ?_
  refine QL.elem TBok j (u32 y) hB.1 (hB.get hyi) rfl rfl rfl rfl rfl rfl rfl rfl rfl rfl rfl (fun _=>rfl) ?_
  intro p2
  refine .run TBok 99 rfl ?_
  refine QL.nil fun m1=>?_
  have e1:IntKind.u64.wrap ((cy:Int)+IntKind.u64.wrap (IntKind.u64.wrap (x:Int)+IntKind.u64.wrap (y:Int)))=((cy+x+y:Nat):Int):=by
   simp only [wrap_u64];omega
  rw [e1]
  (iterate 6 refine Nv ?_;try refine .r rfl ?_)
  have e2:IntKind.u32.wrap ((cy+x+y:Nat):Int)=(((cy+x+y) % 4294967296:Nat):Int):=by rw [wrap_u32];omega
  refine StL.put TBok j (hb2.drewN m1) rfl (by omega) (by simp;omega) rfl rfl rfl rfl rfl rfl rfl rfl (fun _=>rfl) (fun _=>rfl) rfl rfl ?_
  intro p3 w3 hb3 hu3
  rw [e2,Nat.zero_add,map_set_u32] at hb3
  (iterate 6 refine Nv ?_;try refine .r rfl ?_)
  refine Out.again (j+1,(cy+x+y) / 4294967296,us.set j ((cy+x+y) % 4294967296)) ⟨rfl,rfl,rfl,?_,rfl,?_,trivial⟩ ⟨(hx2.drewN m1).then_upd hu3 (Nat.le_refl _),hb3,by simpa using hul,hulim.set _ (by omega),by simp only;omega,by simp only;omega,?_⟩ (by simp only;omega)
  ·show some (Value.int .u64 (((cy+x+y:Nat):Int) / 2 ^ 32))=some (Value.int .u64 (((cy+x+y) / 4294967296:Nat):Int))
   rw [show ((cy+x+y:Nat):Int) / 2 ^ 32=(((cy+x+y) / 4294967296:Nat):Int) from by omega]
  ·show some (Value.int .i64 (IntKind.i64.wrap ((j:Int)+1)))=_
   rw [i64_id (by omega) (by omega)]
   rfl
  ·simp only
   rw [val_take_set (by omega),val_take_succ hxi,val_take_succ hyi,Nat.pow_succ]
   exact step_add _ _ _ _ _ _ _ _ _ heq (by omega)
 obtain rfl:j=ys'.length:=by omega
 rw [List.take_length] at heq
 clear hlt hj
 refine Nv ?_
 refine .a 1 (.bool false) rfl (bool_false (by omega)) ?_
 refine Nv ?_
 refine .cF ?_
 (iterate 6 refine Nv ?_;try refine .r rfl ?_)
 refine St.loop (fun g:Nat×Nat×List Nat=>[(0,.slice p xs'.length c),(1,.slice q ys'.length d),(5,.slice (some ⟨w'.heap.size,0,none⟩) (xs'.length+1) (xs'.length+1)),(6,.int .u64 g.2.1),(50,.int .i64 ((xs'.length - ys'.length:Nat):Int)),(51,.int .i64 g.1)])
  (fun g w2=>Ext w' w2∧Blk 139 w2 w'.heap.size (g.2.2.map u32)∧g.2.2.length=xs'.length+1∧Lim g.2.2∧g.2.1≤1∧g.1≤xs'.length - ys'.length∧val (g.2.2.take (ys'.length+g.1))+g.2.1 * 4294967296 ^ (ys'.length+g.1)=val (xs'.take (ys'.length+g.1))+val ys')
  (fun g=>xs'.length - ys'.length - g.1) (0,cy,us) ⟨rfl,rfl,rfl,rfl,?_,rfl,trivial⟩ ⟨hx2,hb2,hul,hulim,hcy,by simp,heq⟩ ?_
 ·show some (Value.int .i64 (IntKind.i64.wrap ((xs'.length:Int) - (ys'.length:Int))))=_
  rw [i64_id (by omega) (by omega)]
  rw [show ((xs'.length:Int) - (ys'.length:Int))=((xs'.length - ys'.length:Nat):Int) from by omega]
 clear heq hx2 hb2 hul hulim hcy hA hB us cy
 rintro ⟨j,cy,us⟩ w2 ⟨hx2,hb2,hul,hulim,hcy,hj,heq⟩
 simp only at hb2 hul hulim hcy hj heq
 have hA:=h'.ext hx2
 by_cases hlt:j<xs'.length - ys'.length
 ·have hlt2:ys'.length+j<xs'.length:=by omega
  have hxi:xs'[ys'.length+j]?=some xs'[ys'.length+j]:=by simp
  generalize xs'[ys'.length+j]=x at hxi
  have hxl:=h'.2.get hxi
  have e0:IntKind.i64.wrap ((ys'.length:Int)+(j:Int))=((ys'.length+j:Nat):Int):=by rw [i64_id (by omega) (by omega)];omega
  refine Nv ?_
  refine .a 1 (.bool true) rfl (bool_true (by omega)) ?_
  refine Nv ?_
  refine .cT ?_
  (iterate 6 refine Nv ?_;try refine .r rfl ?_)
  refine StL.elem TBok (ys'.length+j) (u32 x) hA.1 (hA.get hxi) e0 rfl rfl rfl rfl rfl rfl rfl rfl rfl rfl (fun _=>rfl) ?_
  intro p1
  have e1:IntKind.u64.wrap ((cy:Int)+IntKind.u64.wrap (x:Int))=((cy+x:Nat):Int):=by
   simp only [wrap_u64];omega
  refine .a 2 (.int .u64 ((cy+x:Nat):Int)) rfl (by rw [e1]) ?_
  (iterate 6 refine Nv ?_;try refine .r rfl ?_)
  have e2:IntKind.u32.wrap ((cy+x:Nat):Int)=(((cy+x) % 4294967296:Nat):Int):=by rw [wrap_u32];omega
  refine StL.put TBok (ys'.length+j) hb2 e0 (by omega) (by simp;omega) rfl rfl rfl rfl rfl rfl rfl rfl (fun _=>rfl) (fun _=>rfl) rfl rfl ?_
  intro p3 w3 hb3 hu3
  rw [e2,Nat.zero_add,map_set_u32] at hb3
  (iterate 6 refine Nv ?_;try refine .r rfl ?_)
  refine Out.again (j+1,(cy+x) / 4294967296,us.set (ys'.length+j) ((cy+x) % 4294967296)) ⟨rfl,rfl,rfl,?_,rfl,?_,trivial⟩ ⟨hx2.then_upd hu3 (Nat.le_refl _),hb3,by simpa using hul,hulim.set _ (by omega),by simp only;omega,by simp only;omega,?_⟩ (by simp only;omega)
  ·show some (Value.int .u64 (((cy+x:Nat):Int) / 2 ^ 32))=some (Value.int .u64 (((cy+x) / 4294967296:Nat):Int))
   rw [show ((cy+x:Nat):Int) / 2 ^ 32=(((cy+x) / 4294967296:Nat):Int) from by omega]
  ·show some (Value.int .i64 (IntKind.i64.wrap ((j:Int)+1)))=_
   rw [i64_id (by omega) (by omega)]
   rfl
  ·simp only
   rw [← Nat.add_assoc,val_take_set (by omega),val_take_succ hxi,Nat.pow_succ]
   have:=step_add _ _ _ _ _ _ 0 _ _ heq (show cy+x+0=(cy+x) % 4294967296+(cy+x) / 4294967296 * 4294967296 from by omega)
   simpa using this
 obtain rfl:j=xs'.length - ys'.length:=by omega
 rw [show ys'.length+(xs'.length - ys'.length)=xs'.length from by omega,List.take_length] at heq
 clear hlt hj
 refine Nv ?_
 refine .a 1 (.bool false) rfl (bool_false (by omega)) ?_
 refine Nv ?_
 refine .cF ?_
 (iterate 6 refine Nv ?_;try refine .r rfl ?_)
 have e2:IntKind.u32.wrap (cy:Int)=(cy:Int):=u32_id (by omega) (by omega)
 refine StL.put TBok xs'.length hb2 rfl (by omega) (by simp;omega) rfl rfl rfl rfl rfl rfl rfl rfl (fun _=>rfl) (fun _=>rfl) rfl rfl ?_
 intro p4 w3 hb3 hu3
 rw [e2,Nat.zero_add,map_set_u32] at hb3
 have hx3:Ext w' w3:=hx2.then_upd hu3 (Nat.le_refl _)
 have hO:SlO w'.heap.size w3 (.slice (some ⟨w'.heap.size,0,none⟩) (xs'.length+1) (xs'.length+1)) (us.set xs'.length cy) :=
  ⟨Blk.own hb3 (by simp [hul]) (Nat.le_refl _) (by omega),hulim.set _ (by omega)⟩
 have hval:val (us.set xs'.length cy)=val xs'+val ys':=by
  have:=val_take_set (us:=us) (k:=xs'.length) (by omega) cy
  rw [List.take_of_length_le (by simp;omega)] at this
  omega
 (iterate 6 refine Nv ?_;try refine .r rfl ?_)
 refine .s (OpR.call fn_integer_trim rfl (trim_spec w3 _ _ hO.sl (by simp;omega))) ?_
 rintro r w4 ⟨rfl,rfl,_⟩
 (iterate 6 refine Nv ?_;try refine .r rfl ?_)
 refine Out.ret1 rfl rfl ⟨hx3,?_⟩
 have:=hO.trimmed
 rw [hval] at this ⊢
 exact this
theorem val_take_succ' (xs:List Nat) (k:Nat):val (xs.take (k+1))=val (xs.take k)+xs.getD k 0 * 4294967296 ^ k:=by
 by_cases h:k<xs.length
 ·have hx:xs[k]?=some xs[k]:=by simp [h]
  rw [val_take_succ hx]
  simp [List.getD_eq_getElem?_getD,hx]
 ·rw [List.take_of_length_le (by omega),List.take_of_length_le (by omega),List.getD_eq_getElem?_getD,List.getElem?_eq_none (by omega)]
  simp
theorem lim_getD {xs:List Nat} (h:Lim xs) (k:Nat):xs.getD k 0<4294967296:=by
 rw [List.getD_eq_getElem?_getD]
 cases hx:xs[k]? with
 | none=>simp
 | some x=>simpa using h.get hx
theorem step_sub (S X Y D c x y v c':Nat) (h:S+Y=X+c * D) (hv:x+c' * 4294967296=v+c+y):(S+v * D)+(Y+y * D)=(X+x * D)+c' * (D * 4294967296):=by
 have h1:=congrArg (· * D) hv
 simp only [Nat.add_mul] at h1
 have e:c' * 4294967296 * D=c' * (D * 4294967296):=by rw [Nat.mul_assoc,Nat.mul_comm 4294967296]
 omega
set_option maxHeartbeats 400000 in
theorem subNat_spec (w:World) (u v:Value) (xs ys:List Nat) (h:Sl w u xs) (k:Sl w v ys) (hlen:xs.length≤100000000) (_hl:ys.length≤100000000) (hll:ys.length≤xs.length) (hge:val ys≤val xs) :
  Calls Tryz.prog 110 #[u,v] w (Ret fun r w'=>Ext w w'∧SlO w.heap.size w' r (limbs (val xs - val ys))):=by
 obtain ⟨p,c,rfl,_⟩:=h.form
 obtain ⟨q,d,rfl,_⟩:=k.form
 refine calls_of_St (args:=[_,_]) Tryz.func110 rfl Tryz.ntmps110 rfl ?_
 (iterate 6 refine Nv ?_;try refine .r rfl ?_)
 refine .s (OpR.make TBok xs.length rfl rfl rfl rfl rfl rfl rfl rfl (by simp;omega) (by omega)) ?_
 rintro _ w1 ⟨rfl,hb1,hx1,_⟩
 (iterate 6 refine Nv ?_;try refine .r rfl ?_)
 refine St.loop (fun g:Nat×Nat×List Nat=>[(0,.slice p xs.length c),(1,.slice q ys.length d),(5,.slice (some ⟨w.heap.size,0,none⟩) xs.length xs.length),(6,.int .u64 g.2.1),(13,.int .i64 xs.length),(14,.int .i64 g.1)])
  (fun g w2=>Ext w w2∧Blk 139 w2 w.heap.size (g.2.2.map u32)∧g.2.2.length=xs.length∧Lim g.2.2∧g.2.1≤1∧g.1≤xs.length∧val (g.2.2.take g.1)+val (ys.take g.1)=val (xs.take g.1)+g.2.1 * 4294967296 ^ g.1)
  (fun g=>xs.length - g.1) (0,0,List.replicate xs.length 0) ⟨rfl,rfl,rfl,rfl,rfl,rfl,trivial⟩ ⟨hx1,by rw [List.map_replicate];exact hb1,by simp,lim_replicate _,by simp,by simp,by simp [val]⟩ ?_
 rintro ⟨j,cy,us⟩ w2 ⟨hx2,hb2,hul,hulim,hcy,hj,heq⟩
 simp only at hb2 hul hulim hcy hj heq
 have hA:=h.ext hx2
 have hB:=k.ext hx2
 by_cases hlt:j<xs.length
 ·have hxi:xs[j]?=some xs[j]:=by simp
  generalize xs[j]=x at hxi
  have hxl:=h.2.get hxi
  have hyl:=lim_getD k.2 j
  refine Nv ?_
  refine .a 1 (.bool true) rfl (bool_true (by omega)) ?_
  refine Nv ?_
  refine .cT ?_
  refine Nv ?_
  refine .r rfl ?_
  refine Nv ?_
  refine .r rfl ?_
  refine StL.elem TBok j (u32 x) hA.1 (hA.get hxi) rfl rfl rfl rfl rfl rfl rfl rfl rfl rfl rfl (fun _=>rfl) ?_
  intro p1
  refine .r rfl ?_
  (refine StL.nil ?_;repeat with_reducible first | refine Out.then_normal ?_ | refine Out.block_normal ?_)
  refine St.cut (fun t:Int=>[(0,.slice p xs.length c),(1,.slice q ys.length d),(5,.slice (some ⟨w.heap.size,0,none⟩) xs.length xs.length),(7,.int .i64 j),(8,.int .u64 t),(13,.int .i64 xs.length),(14,.int .i64 j)])
   (fun t w3=>w3=w2∧t=IntKind.u64.wrap ((x:Int) - cy - ys.getD j 0)) ?_ ?_
  ·refine Nv ?_
   by_cases hy:j<ys.length
   ·have hyi:ys[j]?=some ys[j]:=by simp
    generalize ys[j]=y at hyi
    have hyD:ys.getD j 0=y:=by simp [List.getD_eq_getElem?_getD,hyi]
    refine .a 4 (.bool true) rfl (bool_true (by omega)) ?_
    refine Nv ?_
    refine .cT ?_
    refine Nv ?_
    refine .r rfl ?_
    refine StL.elem TBok j (u32 y) hB.1 (hB.get hyi) rfl rfl rfl rfl rfl rfl rfl rfl rfl rfl rfl (fun _=>rfl) ?_
    intro p2
    refine .r rfl ?_
    refine StL.nil (Out.met _ ⟨rfl,rfl,rfl,rfl,rfl,rfl,rfl,trivial⟩ ⟨rfl,?_⟩)
    rw [hyD]
    rw [hyD] at hyl
    simp only [wrap_u64];omega
   ·have hyD:ys.getD j 0=0:=by rw [List.getD_eq_getElem?_getD,List.getElem?_eq_none (by omega)];rfl
    refine .a 4 (.bool false) rfl (bool_false (by omega)) ?_
    refine Nv ?_
    refine .cF ?_
    refine St.skip (Out.met _ ⟨rfl,rfl,rfl,rfl,rfl,rfl,rfl,trivial⟩ ⟨rfl,?_⟩)
    rw [hyD]
    simp only [wrap_u64];omega
  rintro t w3 ⟨rfl,rfl⟩
  generalize hy:ys.getD j 0=y at *
  (iterate 6 refine Nv ?_;try refine .r rfl ?_)
  have e2:IntKind.u32.wrap (IntKind.u64.wrap ((x:Int) - cy - y))=(((x+8589934592 - cy - y) % 4294967296:Nat):Int):=by
   simp only [wrap_u32,wrap_u64];omega
  refine StL.put TBok j hb2 rfl (by omega) (by simp;omega) rfl rfl rfl rfl rfl rfl rfl rfl (fun _=>rfl) (fun _=>rfl) rfl rfl ?_
  intro p3 w4 hb3 hu3
  rw [e2,Nat.zero_add,map_set_u32] at hb3
  (iterate 6 refine Nv ?_;try refine .r rfl ?_)
  refine Out.again (j+1,(if x<cy+y then 1 else 0),us.set j ((x+8589934592 - cy - y) % 4294967296)) ⟨rfl,rfl,rfl,?_,rfl,?_,trivial⟩ ⟨hx2.then_upd hu3 (Nat.le_refl _),hb3,by simpa using hul,hulim.set _ (by omega),by simp only;split <;> omega,by simp only;omega,?_⟩ (by simp only;omega)
  ·show some (Value.int .u64 (IntKind.u64.wrap ((x:Int) - cy - y) / 2 ^ 63))=some (Value.int .u64 ((if x<cy+y then 1 else 0:Nat):Int))
   congr 2
   rw [wrap_u64]
   split <;> omega
  ·show some (Value.int .i64 (IntKind.i64.wrap ((j:Int)+1)))=_
   rw [i64_id (by omega) (by omega)]
   rfl
  ·simp only
   rw [val_take_set (by omega),val_take_succ hxi,val_take_succ',hy,Nat.pow_succ]
   refine step_sub _ _ _ _ _ _ _ _ _ heq ?_
   split <;> omega
 obtain rfl:j=xs.length:=by omega
 rw [List.take_length,List.take_of_length_le hll,List.take_of_length_le (by omega)] at heq
 have hsz:=val_lt us hulim
 rw [hul] at hsz
 have hc0:cy=0:=by
  rcases Nat.lt_or_ge cy 1 with h0 | h0
  ·omega
  ·have:cy=1:=by omega
   subst this
   omega
 subst hc0
 clear hlt hj
 refine Nv ?_
 refine .a 1 (.bool false) rfl (bool_false (by omega)) ?_
 refine Nv ?_
 refine .cF ?_
 (iterate 6 refine Nv ?_;try refine .r rfl ?_)
 have hO:SlO w.heap.size w2 (.slice (some ⟨w.heap.size,0,none⟩) xs.length xs.length) us :=
  ⟨Blk.own hb2 (by simp [hul]) (Nat.le_refl _) (by omega),hulim⟩
 refine .s (OpR.call fn_integer_trim rfl (trim_spec w2 _ _ hO.sl (by omega))) ?_
 rintro r w4 ⟨rfl,rfl,_⟩
 (iterate 6 refine Nv ?_;try refine .r rfl ?_)
 refine Out.ret1 rfl rfl ⟨hx2,?_⟩
 have:=hO.trimmed
 rw [show val xs - val ys=val us from by omega]
 exact this
theorem mul_step (S S0 T D Di Dj c x y z v c':Nat) (hD:D=Di * Dj) (h:S+c * D=S0+x * T * Di) (ht:v+c' * 4294967296=c+x * y+z):(S+v * D)+c' * (D * 4294967296)=(S0+z * D)+x * (T+y * Dj) * Di:=by
 have h1:=congrArg (· * D) ht
 simp only [Nat.add_mul] at h1
 have e:c' * 4294967296 * D=c' * (D * 4294967296):=by rw [Nat.mul_assoc,Nat.mul_comm 4294967296]
 have e2:x * (T+y * Dj) * Di=x * T * Di+x * y * D:=by
  rw [Nat.mul_add,Nat.add_mul,hD]
  congr 1
  rw [Nat.mul_assoc,Nat.mul_assoc,Nat.mul_assoc,Nat.mul_comm Dj]
 omega
theorem mul_bound {c x y z:Nat} (hc:c<4294967296) (hx:x<4294967296) (hy:y<4294967296) (hz:z<4294967296):c+x * y+z<18446744073709551616:=by
 have:x * y≤4294967295 * 4294967295:=Nat.mul_le_mul (by omega) (by omega)
 omega
theorem getElem?_of_drop {us vs:List Nat} {k j:Nat} (h:us.drop k=vs.drop k) (hj:k≤j):us[j]?=vs[j]?:=by
 have h1:(us.drop k)[j - k]?=(vs.drop k)[j - k]?:=by rw [h]
 simpa [List.getElem?_drop,show k+(j - k)=j from by omega] using h1
theorem drop_set_of {us vs:List Nat} {k v:Nat} (h:us.drop k=vs.drop k):(us.set k v).drop (k+1)=vs.drop (k+1):=by
 rw [List.drop_set_of_lt (by omega)]
 have:(us.drop k).drop 1=(vs.drop k).drop 1:=by rw [h]
 simpa [List.drop_drop,Nat.add_comm] using this
theorem word_small (w:World) (u:Value) (xs:List Nat) (h:Sl w u xs) (hl:xs.length≤1):val xs<4294967296:=by
 match xs,hl with
 | [],_=>simp [val]
 | [a],_=>have:=h.2 a (by simp);simp only [val];omega
set_option maxHeartbeats 1000000 in
theorem mulNat_spec (w:World) (u v:Value) (xs ys:List Nat) (h:Sl w u xs) (k:Sl w v ys) (hlen:xs.length≤100000000) (hl:ys.length≤100000000) :
  Calls Tryz.prog 105 #[u,v] w (Ret fun r w'=>Ext w w'∧SlO w.heap.size w' r (limbs (val xs * val ys))):=by
 obtain ⟨p,c,rfl,_⟩:=h.form
 obtain ⟨q,d,rfl,_⟩:=k.form
 refine calls_of_St (args:=[_,_]) Tryz.func105 rfl Tryz.ntmps105 rfl ?_
 refine St.seq (St.region (StL.run TBok 99 rfl (StL.nil (Out.then_normal ?_))))
 by_cases hs:xs.length≤1∧ys.length≤1
 ·have hx1:=word_small w _ xs h hs.1
  have hy1:=word_small w _ ys k hs.2
  have hxy:val xs * val ys<18446744073709551616:=by
   have:val xs * val ys≤4294967295 * 4294967295:=Nat.mul_le_mul (by omega) (by omega)
   omega
  refine Nv ?_
  refine .a 3 (.bool true) rfl (bool_true (by omega)) ?_
  refine .a 4 (.bool true) rfl (bool_true (by omega)) ?_
  (iterate 6 refine Nv ?_;try refine .r rfl ?_)
  refine .cT ?_
  (iterate 6 refine Nv ?_;try refine .r rfl ?_)
  refine .s (OpR.call fn_integer_word rfl (word_spec w _ xs h (by omega))) ?_
  rintro r w1 ⟨rfl,rfl⟩
  refine .r rfl ?_
  refine .s (OpR.call fn_integer_word rfl (word_spec _ _ ys k (by omega))) ?_
  rintro r w2 ⟨rfl,rfl⟩
  refine .a 1 (.int .u64 ((val xs * val ys:Nat):Int)) rfl ?_ ?_
  ·rw [show ((val xs:Int) * (val ys:Int))=((val xs * val ys:Nat):Int) from by simp,u64_id (by omega) (by omega)]
  refine .s (OpR.call fn_integer_fromWord rfl (fromWord_spec _ _ hxy)) ?_
  rintro r w3 ⟨hx3,hr⟩
  (iterate 6 refine Nv ?_;try refine .r rfl ?_)
  exact Out.ret1 rfl rfl ⟨hx3,hr⟩
 refine St.cut (fun _:Unit=>[(0,.slice p xs.length c),(1,.slice q ys.length d)]) (fun _ w'=>w'=w) ?_ ?_
 ·refine Nv ?_
  by_cases h1:xs.length≤1
  ·refine .a 3 (.bool true) rfl (bool_true (by omega)) ?_
   refine .a 4 (.bool false) rfl (bool_false (by omega)) ?_
   (iterate 6 refine Nv ?_;try refine .r rfl ?_)
   refine St.condF rfl rfl (St.skip (Out.met () ⟨rfl,rfl,trivial⟩ rfl))
  ·refine .a 3 (.bool false) rfl (bool_false (by omega)) ?_
   (iterate 6 refine Nv ?_;try refine .r rfl ?_)
   refine St.condF rfl rfl (St.skip (Out.met () ⟨rfl,rfl,trivial⟩ rfl))
 rintro _ w' rfl
 clear hs
 (iterate 6 refine Nv ?_;try refine .r rfl ?_)
 refine .s (OpR.make TBok (xs.length+ys.length) rfl rfl rfl rfl rfl (by rw [i64_id (by omega) (by omega)];omega) rfl (by rw [i64_id (by omega) (by omega)];omega) (by simp;omega) (by omega)) ?_
 rintro _ w1 ⟨rfl,hb1,hx1,_⟩
 (iterate 6 refine Nv ?_;try refine .r rfl ?_)
 refine St.loop (fun g:Nat×List Nat=>[(0,.slice p xs.length c),(1,.slice q ys.length d),(5,.slice (some ⟨w'.heap.size,0,none⟩) (xs.length+ys.length) (xs.length+ys.length)),(32,.slice p xs.length c),(33,.int .i64 xs.length),(34,.int .i64 g.1)])
  (fun g w2=>Ext w' w2∧Blk 139 w2 w'.heap.size (g.2.map u32)∧g.2.length=xs.length+ys.length∧Lim g.2∧g.1≤xs.length∧val (g.2.take (g.1+ys.length))=val (xs.take g.1) * val ys∧∀ j,g.1+ys.length≤j→j<g.2.length→g.2[j]?=some 0)
  (fun g=>xs.length - g.1) (0,List.replicate (xs.length+ys.length) 0) ⟨rfl,rfl,rfl,rfl,rfl,rfl,trivial⟩ ⟨hx1,by rw [List.map_replicate];exact hb1,by simp,lim_replicate _,by simp,by simp [val,List.take_replicate,val_replicate_zero],fun j _ h2=>by simp at h2;simp [List.getElem?_replicate];omega⟩ ?_
 rintro ⟨i,us⟩ w2 ⟨hx2,hb2,hul,hulim,hi,heq,hz⟩
 simp only at hb2 hul hulim hi heq hz
 have hA:=h.ext hx2
 by_cases hlt:i<xs.length
 ·have hxi:xs[i]?=some xs[i]:=by simp
  generalize xs[i]=x at hxi
  have hxl:=h.2.get hxi
  refine Nv ?_
  refine .a 1 (.bool true) rfl (bool_true (by omega)) ?_
  refine Nv ?_
  refine .cT ?_
  (iterate 6 refine Nv ?_;try refine .r rfl ?_)
  refine StL.elem TBok i (u32 x) hA.1 (hA.get hxi) rfl rfl rfl rfl rfl rfl rfl rfl rfl rfl rfl (fun _=>rfl) ?_
  intro p1
  (iterate 6 refine Nv ?_;try refine .r rfl ?_)
  by_cases hx0:x=0
  ·subst hx0
   refine .cT ?_
   (iterate 6 refine Nv ?_;try refine .r rfl ?_)
   refine Out.again (i+1,us) ⟨rfl,rfl,rfl,rfl,rfl,?_,trivial⟩ ⟨hx2,hb2,hul,hulim,by simp only;omega,?_,fun j h1 h2=>hz j (by simp only at h1;omega) h2⟩ (by simp only;omega)
   ·show some (Value.int .i64 (IntKind.i64.wrap ((i:Int)+1)))=_
    rw [i64_id (by omega) (by omega)]
    rfl
   ·simp only
    rw [show i+1+ys.length=i+ys.length+1 from by omega,val_take_succ (hz (i+ys.length) (by omega) (by omega)),val_take_succ hxi]
    simpa using heq
  refine St.condF rfl (by simp;omega) ?_
  (iterate 6 refine Nv ?_;try refine .r rfl ?_)
  have eL:IntKind.i64.wrap (IntKind.i64.wrap ((i:Int)+(ys.length:Int))+1)=((i+ys.length+1:Nat):Int):=by
   rw [i64_id (n:=(i:Int)+(ys.length:Int)) (by omega) (by omega),i64_id (by omega) (by omega)];omega
  refine .p (RunsTo.sliceLoHi TBok rfl rfl rfl rfl rfl rfl (by omega) (by rw [eL];omega) (by rw [eL];omega) (by omega)) ?_
  rw [eL,show (((i+ys.length+1:Nat):Int).toNat - (i:Int).toNat)=ys.length+1 from by omega,show (0+(i:Int).toNat)=i from by omega,show xs.length+ys.length - (i:Int).toNat=xs.length+ys.length - i from by omega]
  (iterate 6 refine Nv ?_;try refine .r rfl ?_)
  refine St.loop (fun g:Nat×Nat×List Nat=>[(0,.slice p xs.length c),(1,.slice q ys.length d),(5,.slice (some ⟨w'.heap.size,0,none⟩) (xs.length+ys.length) (xs.length+ys.length)),(32,.slice p xs.length c),(33,.int .i64 xs.length),(34,.int .i64 i),(7,u32 x),(8,.slice (some ⟨w'.heap.size,i,none⟩) (ys.length+1) (xs.length+ys.length - i)),(9,.int .u64 g.2.1),(49,.slice q ys.length d),(50,.int .i64 ys.length),(51,.int .i64 g.1)])
   (fun g w3=>Ext w' w3∧Blk 139 w3 w'.heap.size (g.2.2.map u32)∧g.2.2.length=xs.length+ys.length∧Lim g.2.2∧g.2.1<4294967296∧g.1≤ys.length∧g.2.2.drop (i+g.1)=us.drop (i+g.1)∧val (g.2.2.take (i+g.1))+g.2.1 * 4294967296 ^ (i+g.1)=val (us.take (i+g.1))+x * val (ys.take g.1) * 4294967296 ^ i)
   (fun g=>ys.length - g.1) (0,0,us) ⟨rfl,rfl,rfl,rfl,rfl,rfl,rfl,rfl,rfl,rfl,rfl,rfl,trivial⟩ ⟨hx2,hb2,hul,hulim,by simp,by simp,rfl,by simp [val]⟩ ?_
  rintro ⟨j,cy,vs⟩ w3 ⟨hx3,hb3,hvl,hvlim,hcy,hj,hdr,heq3⟩
  simp only at hb3 hvl hvlim hcy hj hdr heq3
  have hB:=k.ext hx3
  by_cases hlt2:j<ys.length
  ·have hyi:ys[j]?=some ys[j]:=by simp
   generalize ys[j]=y at hyi
   have hyl:=k.2.get hyi
   have hzi:vs[i+j]?=some vs[i+j]:=by simp
   generalize vs[i+j]=z at hzi
   have hzl:=hvlim.get hzi
   have hzu:us[i+j]?=some z:=by rw [← getElem?_of_drop hdr (Nat.le_refl _)];exact hzi
   have hbd:=mul_bound hcy hxl hyl hzl
   refine Nv ?_
   refine .a 1 (.bool true) rfl (bool_true (by omega)) ?_
   refine Nv ?_
   refine .cT ?_
   (iterate 6 refine Nv ?_;try refine .r rfl ?_)
   refine StL.elem TBok j (u32 y) hB.1 (hB.get hyi) rfl rfl rfl rfl rfl rfl rfl rfl rfl rfl rfl (fun _=>rfl) ?_
   intro p2
   (iterate 6 refine Nv ?_;try refine .r rfl ?_)
   refine StL.elemB TBok j (u32 z) hb3 (by simp [hzi]) rfl (by omega) rfl rfl rfl rfl rfl rfl rfl rfl rfl rfl (fun _=>rfl) ?_
   intro p3
   have e1:IntKind.u64.wrap ((cy:Int)+IntKind.u64.wrap (IntKind.u64.wrap (IntKind.u64.wrap (x:Int) * IntKind.u64.wrap (y:Int))+IntKind.u64.wrap (z:Int)))=((cy+x * y+z:Nat):Int):=by
    rw [u64_id (n:=(x:Int)) (by omega) (by omega),u64_id (n:=(y:Int)) (by omega) (by omega),show (x:Int) * (y:Int)=((x * y:Nat):Int) from by simp]
    generalize x * y=xy at hbd
    simp only [wrap_u64];omega
   refine .a 3 (.int .u64 ((cy+x * y+z:Nat):Int)) rfl (by rw [e1]) ?_
   generalize ht:cy+x * y+z=t at hbd
   (iterate 6 refine Nv ?_;try refine .r rfl ?_)
   have e2:IntKind.u32.wrap (t:Int)=((t % 4294967296:Nat):Int):=by rw [wrap_u32];omega
   refine StL.put TBok j hb3 rfl (by omega) (by simp;omega) rfl rfl rfl rfl rfl rfl rfl rfl (fun _=>rfl) (fun _=>rfl) rfl rfl ?_
   intro p4 w4 hb4 hu4
   rw [e2,map_set_u32] at hb4
   (iterate 6 refine Nv ?_;try refine .r rfl ?_)
   refine Out.again (j+1,t / 4294967296,vs.set (i+j) (t % 4294967296)) ⟨rfl,rfl,rfl,rfl,rfl,rfl,rfl,rfl,?_,rfl,rfl,?_,trivial⟩ ⟨hx3.then_upd hu4 (Nat.le_refl _),hb4,by simpa using hvl,hvlim.set _ (by omega),by simp only;omega,by simp only;omega,?_,?_⟩ (by simp only;omega)
   ·show some (Value.int .u64 ((t:Int) / 2 ^ 32))=some (Value.int .u64 ((t / 4294967296:Nat):Int))
    rw [show (t:Int) / 2 ^ 32=((t / 4294967296:Nat):Int) from by omega]
   ·show some (Value.int .i64 (IntKind.i64.wrap ((j:Int)+1)))=_
    rw [i64_id (by omega) (by omega)]
    rfl
   ·simp only
    rw [← Nat.add_assoc]
    exact drop_set_of hdr
   ·simp only
    rw [← Nat.add_assoc,val_take_set (by omega),val_take_succ hzu,val_take_succ hyi,Nat.pow_succ]
    exact mul_step _ _ _ _ _ _ _ _ _ _ _ _ (Nat.pow_add _ _ _) heq3 (by omega)
  obtain rfl:j=ys.length:=by omega
  rw [List.take_length] at heq3
  clear hlt2 hj
  refine Nv ?_
  refine .a 1 (.bool false) rfl (bool_false (by omega)) ?_
  refine Nv ?_
  refine .cF ?_
  (iterate 6 refine Nv ?_;try refine .r rfl ?_)
  have e2:IntKind.u32.wrap (cy:Int)=(cy:Int):=u32_id (by omega) (by omega)
  refine StL.put TBok ys.length hb3 rfl (by omega) (by simp;omega) rfl rfl rfl rfl rfl rfl rfl rfl (fun _=>rfl) (fun _=>rfl) rfl rfl ?_
  intro p4 w4 hb4 hu4
  rw [e2,map_set_u32] at hb4
  (iterate 6 refine Nv ?_;try refine .r rfl ?_)
  refine Out.again (i+1,vs.set (i+ys.length) cy) ⟨rfl,rfl,rfl,rfl,rfl,?_,trivial⟩ ⟨hx3.then_upd hu4 (Nat.le_refl _),hb4,by simpa using hvl,hvlim.set _ hcy,by simp only;omega,?_,?_⟩ (by simp only;omega)
  ·show some (Value.int .i64 (IntKind.i64.wrap ((i:Int)+1)))=_
   rw [i64_id (by omega) (by omega)]
   rfl
  ·simp only
   rw [show i+1+ys.length=i+ys.length+1 from by omega,val_take_set (by omega),heq3,heq,val_take_succ hxi,Nat.add_mul]
   congr 1
   rw [Nat.mul_assoc,Nat.mul_assoc,Nat.mul_comm (val ys)]
  ·intro j h1 h2
   simp only at h1 h2 ⊢
   rw [List.getElem?_set_ne (by omega),getElem?_of_drop hdr (by omega)]
   exact hz j (by omega) (by simp at h2;omega)
 obtain rfl:i=xs.length:=by omega
 rw [List.take_length,List.take_of_length_le (by omega)] at heq
 clear hlt hi
 refine Nv ?_
 refine .a 1 (.bool false) rfl (bool_false (by omega)) ?_
 refine Nv ?_
 refine .cF ?_
 (iterate 6 refine Nv ?_;try refine .r rfl ?_)
 have hO:SlO w'.heap.size w2 (.slice (some ⟨w'.heap.size,0,none⟩) (xs.length+ys.length) (xs.length+ys.length)) us :=
  ⟨Blk.own hb2 (by simp [hul]) (Nat.le_refl _) (by omega),hulim⟩
 refine .s (OpR.call fn_integer_trim rfl (trim_spec w2 _ _ hO.sl (by omega))) ?_
 rintro r w4 ⟨rfl,rfl,_⟩
 (iterate 6 refine Nv ?_;try refine .r rfl ?_)
 refine Out.ret1 rfl rfl ⟨hx2,?_⟩
 have:=hO.trimmed
 rw [← heq]
 exact this
end Go.Qf
