/- Lemmas on the model and on the program's functions, part Una. -/
import GoSem.Core.View
import Derived.WalkKit
import Derived.Deep.Quiet
import Derived.Deep.LoopGhost
import Derived.KernelRfl
import Derived.Test.YthmendnhilghhaaGreatProg
import Derived.Laws.BytesString
import Derived.Laws.RangeString
import Derived.Lib.OthersKept
import Derived.Laws.Strings
import Derived.ProofKit
import Derived.OpenShut
import Derived.Lib.SmallJoins
import Derived.Carry
import Derived.ChangeMaps5
import Derived.Maps.AppendAt
import Derived.Laws.Externs
import Derived.Lib.Bytealg
import Derived.ChangeArms
import Derived.Laws.OwnMore
import Derived.Scope
import Derived.RangeFuncLeaves
import Derived.RangeFuncRecord
import Derived.TacticsIn
import Derived.OrdersIn
import Derived.Maps.OwnSet
import Derived.Maps.Views
import Derived.Test.YthmendnhilghhaaGreatRows
set_option linter.unusedVariables false
set_option linter.unusedSimpArgs false
set_option maxRecDepth 20000
set_option maxHeartbeats 6400000
namespace Go.Qf
open Go Go.RowKit Go.Proofs Go.Proofs.Tryz
theorem oo {p:Prop}(h:p:=by omega):p:=h
theorem kr {p:Prop}(h:p:=by kernel_rfl):p:=h
theorem sm {p:Prop}(h:p:=by simp):p:=h
theorem de {p:Prop}(h:p:=by decide):p:=h
theorem AO {n:Nat}:n<=n:=Nat.le_refl n
theorem BI {n:Nat}:0<=n:=Nat.zero_le n
abbrev Ai:=@Nat.le_refl
abbrev Ar:=@Nat.le_trans
abbrev Au:=@List.getElem?_eq_some_iff
abbrev AE:=@Nat.zero_add
abbrev AP:=@Option.some.injEq
abbrev AQ:=@Nat.mul_comm
abbrev Bi:=@List.mem_of_getElem?
abbrev Bp:=@Result.andThen_ok
abbrev Bq:=@Sem.run_bind
abbrev Br:=@Rat.mul_nonneg
abbrev AX:=@Sem.run_pure
abbrev Bb:=@Nat.mul_assoc
abbrev Bd:=@List.getD_eq_getElem?_getD
abbrev Bf:=@List.length_append
abbrev Bj:=@List.length_map
abbrev Bm:=@Nat.mul_le_mul_right
abbrev Bs:=@List.take_of_length_le
abbrev Bw:=@Nat.add_mul
abbrev Bx:=@List.getElem?_set_self
abbrev Bz:=@Rat.le_of_lt
abbrev BJ:=@List.getElem?_eq_none
abbrev BM:=@List.getElem?_append_left
abbrev BR:=@List.length_cons
abbrev BU:=@List.eq_of_mem_replicate
abbrev Ce:=@List.getElem?_set_ne
abbrev Cf:=@Nat.one_mul
abbrev Cu:=@Nat.zero_le
abbrev Ci:=@Value.slice.injEq
abbrev Cj:=@Int.toNat_natCast
abbrev Ck:=@Nat.pow_succ
abbrev Cw:=@List.mem_cons
abbrev Cx:=@List.mem_iff_getElem?
abbrev CG:=@List.mem_map
abbrev CW:=@Nat.lt_of_lt_of_le
abbrev CX:=@Nat.mod_lt
abbrev CZ:=@List.mem_range
abbrev D5:=@List.take_length
abbrev D7:=@List.append_nil
abbrev Df:=@Nat.pow_add
abbrev Dg:=@Nat.mul_le_mul
abbrev Dk:=@Nat.mul_add
abbrev Dl:=@Nat.lt_or_ge
abbrev Du:=@List.mem_singleton
abbrev Dz:=@List.getElem?_take_of_lt
abbrev DA:=@List.take_succ_eq_append_getElem
abbrev DB:=@Nat.pow_le_pow_right
abbrev DH:=@List.getElem?_eq_getElem
abbrev DI:=@Int.mul_nonneg
abbrev DU:=@List.getElem_mem
abbrev DV:=@Rat.div_def
abbrev Ep:=@Nat.add_zero
abbrev Er:=@List.map_cons
abbrev Es:=@List.getElem?_append_right
abbrev Et:=@Bool.and_eq_true
abbrev Eu:=@List.all_eq_true
abbrev Ev:=@List.map_append
abbrev ED:=@List.drop_eq_getElem_cons
abbrev EE:=@List.length_take
abbrev EK:=@Array.getD_eq_getD_getElem?
abbrev EM:=@Nat.pow_pos
abbrev EN:=@Nat.div_le_self
abbrev EO:=@List.append_assoc
abbrev EP:=@List.length_set
abbrev EQ:=@Rat.le_refl
abbrev Fh:=@Prod.mk.injEq
abbrev Fj:=@List.length_nil
abbrev Fk:=@List.ext_getElem?
abbrev FA:=@List.eq_nil_of_length_eq_zero
abbrev FB:=@List.mem_append
abbrev FD:=@Nat.add_comm
abbrev FE:=@List.drop_zero
abbrev FF:=@Addr.mk.injEq
abbrev FG:=@Rat.intCast_mul
abbrev G9:=@List.map_replicate
abbrev Ga:=@Rat.le_trans
abbrev Gb:=@Rat.mul_inv_cancel
abbrev Gc:=@Rat.le_total
abbrev A9r:=@Addr.add_add
abbrev Gt:=@Array.getElem?_eq_some_iff
abbrev Gu:=@Nat.eq_zero_or_pos
abbrev Gv:=@Int.natCast_mul
abbrev Gw:=@Int.lt_or_le
abbrev Gx:=@List.map_set
abbrev Gy:=@Int.le_refl
abbrev H8:=@Nat.min_eq_left
abbrev H9:=@Bool.or_eq_true
abbrev He:=@List.length_replicate
abbrev HS:=@Nat.add_assoc
abbrev HT:=@Int.mul_comm
abbrev HU:=@List.mem_of_mem_take
abbrev HV:=@Nat.mul_le_mul_left
abbrev HW:=@List.mem_cons_of_mem
abbrev HX:=@List.nil_append
abbrev HY:=@List.getElem?_cons_succ
abbrev J3:=@Nat.eq_of_beq_eq_true
abbrev J4:=@List.map_nil
abbrev J5:=@Nat.div_eq_of_lt
abbrev J6:=@Nat.sub_self
abbrev J7:=@List.getElem?_map
abbrev J8:=@Int.mul_le_mul_of_nonneg_left
abbrev Hg:=@Bool.false_eq_true
abbrev Hh:=@List.cons_append
abbrev Hj:=@Nat.mod_eq_of_lt
abbrev Hl:=@List.drop_drop
abbrev Ho:=@Nat.div_add_mod
abbrev Hq:=@List.getElem?_cons_zero
abbrev Iq:=@Array.getElem?_setIfInBounds_ne
abbrev Ir:=@Option.some.inj
abbrev Iu:=@List.cons.injEq
abbrev Iv:=@List.range_succ
abbrev Iw:=@Prod.ext
abbrev Iy:=@Rat.intCast_le_intCast
abbrev Iz:=@Rat.mul_pos
abbrev Jr:=@Nat.le_of_ble_eq_true
abbrev Js:=@List.map_toArray
abbrev Jt:=@List.getElem?_drop
abbrev Ju:=@Int.mul_neg
abbrev Jv:=@Int.neg_mul
abbrev Jw:=@List.flatMap_cons
abbrev Jy:=@List.length_drop
abbrev Jz:=@Int.mul_le_mul_of_nonneg_right
abbrev Kg:=@Nat.blt_eq
abbrev Kh:=@List.take_append_drop
abbrev Ki:=@Nat.div_lt_of_lt_mul
abbrev Kj:=@List.drop_length
abbrev Kk:=@List.length_singleton
abbrev Kl:=@Rat.one_mul
abbrev LA:=@Int.le_of_lt
abbrev LB:=@Nat.mul_one
abbrev LD:=@Array.toList_inj
abbrev LF:=@List.mem_or_eq_of_mem_set
abbrev LG:=@Nat.lt_succ_self
abbrev LH:=@Nat.lt_trichotomy
abbrev LJ:=@Nat.pow_mul
abbrev LK:=@Nat.le_succ
abbrev LL:=@Nat.lt_of_le_of_lt
abbrev LM:=@Nat.pos_of_ne_zero
abbrev LN:=@List.not_mem_nil
abbrev LP:=@Option.map_some
abbrev LQ:=@Int.mul_add
abbrev LR:=@Nat.div_div_eq_div_mul
abbrev LS:=@Rat.num_divInt_den
abbrev LU:=@List.flatMap_append
abbrev LV:=@Rat.mul_zero
abbrev LW:=@Int.mul_zero
abbrev NN:=@List.mem_of_mem_drop
abbrev NP:=@Nat.or_comm
abbrev NQ:=@Nat.le_of_lt
abbrev NR:=@List.set_append_left
abbrev NS:=@Nat.mul_left_comm
abbrev NT:=@Nat.add_mul_div_left
abbrev NU:=@Nat.mod_le
abbrev NV:=@List.nodup_cons
abbrev NW:=@Int.add_comm
abbrev NX:=@Int.natAbs_mul
abbrev NY:=@List.map_congr_left
abbrev NZ:=@Rat.mul_assoc
abbrev O0:=@Rat.not_le
abbrev O1:=@Int.mul_assoc
abbrev O2:=@Int.mul_le_mul
abbrev O3:=@List.drop_eq_nil_of_le
abbrev O4:=@List.ext_getElem
abbrev PT:=@Nat.sub_zero
abbrev PU:=@List.map_take
abbrev PV:=@Nat.mul_succ
abbrev PW:=@List.mapM_cons
abbrev PX:=@Bool.not_true
abbrev PY:=@Int.natCast_nonneg
abbrev PZ:=@Int.lt_trichotomy
abbrev Q0:=@Rat.lt_irrefl
abbrev Q1:=@Rat.mul_add
abbrev Q2:=@List.foldl_append
abbrev Q3:=@Rat.zero_add
abbrev Q4:=@Rat.divInt_eq_div
abbrev Q5:=@Rat.intCast_neg
abbrev Q6:=@Int.zero_add
abbrev Q7:=@Int.add_zero
abbrev Q8:=@List.length_filter_le
abbrev Q9:=@Rat.inv_pos
abbrev Tx:=@Bool.false_and
abbrev Ty:=@List.size_toArray
abbrev Tz:=@Array.empty_append
abbrev TA:=@List.getElem?_replicate
abbrev TD:=@Nat.or_lt_two_pow
abbrev TG:=@List.foldl_cons
abbrev TH:=@List.any_eq_true
abbrev TJ:=@List.exists_mem_of_ne_nil
abbrev TK:=@List.set_append_right
abbrev TL:=@List.set_cons_zero
abbrev TM:=@Nat.add_sub_cancel
abbrev TN:=@List.drop_of_length_le
abbrev TP:=@Nat.gcd_comm
abbrev TQ:=@Nat.div_mul_le_self
abbrev TT:=@List.nodup_append
abbrev TU:=@List.mem_filter
abbrev TV:=@Int.ediv_neg
abbrev TW:=@Int.natCast_add
abbrev TX:=@Int.sign_eq_one_of_pos
abbrev TY:=@Int.natCast_ediv
abbrev TZ:=@Int.mul_neg_of_pos_of_neg
abbrev U0:=@Nat.dvd_of_mod_eq_zero
abbrev U1:=@Rat.natCast_add
abbrev U2:=@Rat.intCast_add
abbrev U3:=@Int.natAbs_mul_self'
abbrev U4:=@Int.le_ediv_iff_mul_le
abbrev U5:=@Int.lt_mul_ediv_self_add
abbrev U6:=@Int.sub_zero
abbrev U7:=@List.filter_append
abbrev U8:=@List.filter_cons
abbrev U9:=@Rat.intCast_pos
theorem Cz (n:Int):IntKind.u64.wrap n=n % 18446744073709551616:=by show (if (false && decide (n % (2 ^ 64:Int)>=2 ^ (64 - 1)))=true then n % (2 ^ 64:Int) - 2 ^ 64 else n % (2 ^ 64:Int))=_;rw[Tx,if_neg de];rfl
theorem CJ (n:Int):IntKind.u32.wrap n=n % 4294967296:=by show (if (false && decide (n % (2 ^ 32:Int)>=2 ^ (32 - 1)))=true then n % (2 ^ 32:Int) - 2 ^ 32 else n % (2 ^ 32:Int))=_;rw[Tx,if_neg de];rfl
theorem Ua (n:Int):IntKind.u8.wrap n=n % 256:=by show (if (false && decide (n % (2 ^ 8:Int)>=2 ^ (8 - 1)))=true then n % (2 ^ 8:Int) - 2 ^ 8 else n % (2 ^ 8:Int))=_;rw[Tx,if_neg de];rfl
theorem IK (n:Int):IntKind.i64.wrap n=(n+9223372036854775808) % 18446744073709551616 - 9223372036854775808:=by show (if (true && decide (n % (2 ^ 64:Int)>=2 ^ (64 - 1)))=true then n % (2 ^ 64:Int) - 2 ^ 64 else n % (2 ^ 64:Int))=_;rw[Bool.true_and];have e1:(2:Int) ^ 64=18446744073709551616:=rfl;have e2:(2:Int) ^ (64 - 1)=9223372036854775808:=rfl;simp only[e1,e2,decide_eq_true_eq];split <;> omega
theorem Ab {n:Int}(c:-9223372036854775808<=n) (d:n<=9223372036854775807):IntKind.i64.wrap n=n:=by rw[IK];omega
theorem BG {n:Int}(c:0<=n) (d:n<=18446744073709551615):IntKind.u64.wrap n=n:=by rw[Cz];omega
theorem Hs {n:Int}(c:0<=n) (d:n<=4294967295):IntKind.u32.wrap n=n:=by rw[CJ];omega
def AR:List (Nat×Value)->Nat->Option Value
 | [],_=>none
 | (k,v)::r,n=>bif Nat.beq k n then some v else AR r n
theorem AF (k:Nat) (v:Value) (r:List (Nat×Value)):AR ((k,v)::r) k=some v:=by simp[AR]
theorem Bc {k n:Nat}(v:Value) (r:List (Nat×Value)) (h:k≠n):AR ((k,v)::r) n=AR r n:=by
 have:Nat.beq k n=false:=by
  cases hb:Nat.beq k n
  ·rfl
  ·exact absurd (J3 hb) h
 simp[AR,this]
structure DM (n:Nat) (E:List (Nat×Value)) (a:Act):Prop where
 size:a.tmps.size=n
 defers:a.defers=[]
 slots:∀ k v,AR E k=some v->a.tmps[k]?=some v
theorem DM.put {n:Nat}{E:List (Nat×Value)}{a:Act}(h:DM n E a) {d:Nat}(g:Nat.blt d n=true) (v:Value):DM n ((d,v)::E) (a.put (some d) v):=by
 have j:d<n:=by simpa[Kg] using g
 refine⟨by simp[Act.put,h.size],by simp[Act.put,h.defers],fun k u c=>?_⟩;by_cases e:d=k
 ·subst e;rw[AF]at c;cases c;simp[Act.put,h.size,j]
 ·rw[Bc _ _ e]at c;simp only[Act.put];rw[Iq e];exact h.slots k u c
def Xy:List (Nat×Value)->List (Nat×Value)->Prop
 | [],_=>True
 | (k,v)::r,E=>AR E k=some v/\Xy r E
theorem Xy.look {E1 E2:List (Nat×Value)}(h:Xy E1 E2):∀ k v,AR E1 k=some v->Qf.AR E2 k=some v:=by
 induction E1 with
 | nil=>intro k v c;simp[Qf.AR]at c
 | cons p r ih =>
  obtain⟨k0,v0⟩:=p;intro k v c;by_cases e:k0=k
  ·subst e;rw[AF]at c;cases c;exact h.1
  ·rw[Bc _ _ e]at c;exact ih h.2 k v c
theorem DM.sub {n:Nat}{E1 E2:List (Nat×Value)}{a:Act}(h:DM n E2 a) (d:Xy E1 E2):DM n E1 a :=
 ⟨h.size,h.defers,fun k v c=>h.slots k v (d.look k v c)⟩
def ov (E:List (Nat×Value)):Operand->Option Value
 | .tmp t=>AR E t
 | .const v=>some v
 | .global g=>some (.pointer (some ⟨g,0,none⟩))
 | .func f=>some (.func (.func f) #[] #[])
theorem DM.eval {n:Nat}{E:List (Nat×Value)}{a:Act}(h:DM n E a) {x:Operand}{v:Value}(c:ov E x=some v):a.eval x=v:=by
 cases x with
 | tmp t =>
  have:=h.slots t v c;simp[Act.eval,EK,this]
 | const u=>simp only[ov,AP]at c;subst c;rfl
 | global g=>simp only[ov,AP]at c;subst c;rfl
 | func f=>simp only[ov,AP]at c;subst c;rfl
def Bg (ops:Array Oper) (E:List (Nat×Value)):Option (Nat×Bool)->Option Bool
 | none=>some true
 | some (j,want) =>
  match (ops[j]?).bind (·.dst) with
  | some d=>match AR E d with
   | some (.bool b)=>some (b == want)
   | some (.tuple _)=>some false
   | _=>none
  | none=>none
theorem CL {n:Nat}{ops:Array Oper}{E:List (Nat×Value)}{a:Act}(h:DM n E a) {o:Oper}{b:Bool}(c:Bg ops E o.guard=some b) :
  Region.wanted o (yielded ops a.tmps)=b:=by
 unfold Bg at c;unfold Region.wanted;cases hg:o.guard with
 | none=>rw[hg]at c;simpa using c
 | some p =>
  obtain⟨j,want⟩:=p;rw[hg]at c;simp only at c ⊢;cases hd:(ops[j]?).bind (·.dst) with
  | none=>rw[hd]at c;simp at c
  | some d =>
   rw[hd]at c;simp only at c;cases hl:AR E d with
   | none=>rw[hl]at c;simp at c
   | some v =>
    rw[hl]at c;have e:=h.slots d v hl;cases v with
    | bool b' =>
     simp at c;subst c;simp[yielded,hd,e]
    | tuple t =>
     simp at c;subst c;simp[yielded,hd,e]
    | _=>simp at c
def Av (P:Program) (n:Nat) (o:Oper) (E:List (Nat×Value)) (w:World) (Φ:Value->World->Prop):Prop :=
 ∀ a,DM n E a->∀ (Q:Exit->Act->World->Prop) (K:Act->World->Prop),(∀ v w',Φ v w'->K (a.put o.dst v) w')->o.wp P a w K Q
def CD (P:Program) (n:Nat) (ops:Array Oper) (o:Oper) (E:List (Nat×Value)) (w:World) (Φ:Value->World->Prop):Prop :=
 (Bg ops E o.guard=some true/\Av P n o E w Φ)\/(Bg ops E o.guard=some false/\Φ undef w)
theorem Av.mono {P:Program}{n:Nat}{o:Oper}{E:List (Nat×Value)}{w:World}{Φ Ψ:Value->World->Prop}(h:Av P n o E w Φ) (e:∀ v w',Φ v w'->Ψ v w'):Av P n o E w Ψ :=
 fun a d Q K c=>h a d Q K fun v w' hv=>c v w' (e v w' hv)
def St (P:Program) (n:Nat) (E:List (Nat×Value)) (w:World) (c:Code) (Q:Exit->Act->World->Prop):Prop:=∀ a,DM n E a->c.wp P Q a w
def Af (P:Program) (n:Nat) (E:List (Nat×Value)) (w:World) (ops:Array Oper) (l:List Oper) (Q:Exit->Act->World->Prop):Prop:=∀ a,DM n E a->wpList P ops Q l a w
def Ad (n:Nat) (E:List (Nat×Value)) (w:World) (e:Exit) (Q:Exit->Act->World->Prop):Prop:=∀ a,DM n E a->Q e a w
section rules
variable {P:Program}{n:Nat}{E:List (Nat×Value)}{w:World}{Q:Exit->Act->World->Prop}{ops:Array Oper}{rest:List Oper}
theorem Af.step {o:Oper}{d:Nat}{Φ:Value->World->Prop}(g:o.dst=some d) (k:Bg ops E o.guard=some true) (j:Nat.blt d n=true) (h:Av P n o E w Φ)
  (next:∀ v w',Φ v w'->Af P n ((d,v)::E) w' ops rest Q):Af P n E w ops (o::rest) Q:=by intro a c;refine wpList_step fun K e=>?_;rw[if_pos (CL c k)];exact h a c Q K fun v w' hv=>e _ _ (next v w' hv _ (by rw[g];exact c.put j v))
theorem Af.step0 {o:Oper}{Φ:Value->World->Prop}(e:o.dst=none) (g:Bg ops E o.guard=some true) (h:Av P n o E w Φ)
  (next:∀ v w',Φ v w'->Af P n E w' ops rest Q):Af P n E w ops (o::rest) Q:=by intro a c;refine wpList_step fun K d=>?_;rw[if_pos (CL c g)];exact h a c Q K fun v w' hv=>d _ _ (next v w' hv _ (by rw[e];exact c))
theorem sZ {o:Oper}{Φ:Value->World->Prop}(h:Av P n o E w Φ) (next:∀ v w',Φ v w'->Af P n E w' ops rest Q) (c:o.dst=none:=by exact rfl) (d:Bg ops E o.guard=some true:=by exact rfl):Af P n E w ops (o::rest) Q:=Af.step0 c d h next
theorem Af.skip {o:Oper}{d:Nat}(g:o.dst=some d) (k:Bg ops E o.guard=some false) (j:Nat.blt d n=true)
  (next:Af P n ((d,undef)::E) w ops rest Q):Af P n E w ops (o::rest) Q:=by intro a c;refine wpList_step fun K e=>?_;rw[if_neg (by rw[CL c k];simp)];exact e _ _ (next _ (by rw[g];exact c.put j undef))
theorem Af.nil (h:Ad n E w .normal Q):Af P n E w ops [] Q:=fun a c=>wpList_nil (h a c)
theorem St.seq {x y:Code}(h:St P n E w x (Exit.then (y.wp P Q) Q)):St P n E w (.seq x y) Q:=fun a c=>wp_seq (h a c)
theorem St.region {id:Nat}{l:List Oper}(h:Af P n E w l.toArray l Q):St P n E w (.region id l.toArray false) Q:=fun a c=>wp_region_lit (h a c)
theorem St.skip (h:Ad n E w .normal Q):St P n E w .skip Q:=fun a c=>wp_skip (h a c)
theorem St.ret (h:Ad n E w .ret Q):St P n E w .ret Q:=fun a c=>wp_ret (h a c)
theorem St.exit {id:Nat}(h:Ad n E w (.exit id) Q):St P n E w (.exit id) Q:=fun a c=>wp_exit (h a c)
theorem St.block {id:Nat}{c:Code}(h:St P n E w c (Exit.inBlock id Q)):St P n E w (.block id c) Q:=fun a d=>wp_block (h a d)
theorem St.cond {c:Operand}{x y:Code}{b:Bool}(g:ov E c=some (.bool b)) (k:b=true->St P n E w x Q) (j:b=false->St P n E w y Q):St P n E w (.cond c x y) Q :=
 fun a d=>wp_cond_split (d.eval g) (fun e=>k e a d) (fun e=>j e a d)
theorem St.aD {c:Operand}{x y:Code}{b:Bool}(d:ov E c=some (.bool b)) (e:b=true) (g:St P n E w x Q):St P n E w (.cond c x y) Q :=
 St.cond d (fun _=>g) (fun h=>by rw[e]at h;cases h)
theorem St.ay {c:Operand}{x y:Code}{b:Bool}(d:ov E c=some (.bool b)) (e:b=false) (g:St P n E w y Q):St P n E w (.cond c x y) Q :=
 St.cond d (fun h=>by rw[e]at h;cases h) (fun _=>g)
theorem St.sub {E':List (Nat×Value)}{c:Code}(h:St P n E' w c Q) (e:Xy E' E):St P n E w c Q:=fun a d=>h a (d.sub e)
theorem Ad.ak {y:Code}(h:St P n E w y Q):Ad n E w .normal (Exit.then (y.wp P Q) Q):=h
theorem Ad.dN {K:Act->World->Prop}(h:Ad n E w .ret Q):Ad n E w .ret (Exit.then K Q):=h
theorem Ad.aR {K:Act->World->Prop}{id:Nat}(h:Ad n E w (.exit id) Q):Ad n E w (.exit id) (Exit.then K Q):=h
theorem Ad.aL {id:Nat}(h:Ad n E w .normal Q):Ad n E w .normal (Exit.inBlock id Q):=h
theorem Ad.dK {id:Nat}(h:Ad n E w .ret Q):Ad n E w .ret (Exit.inBlock id Q):=h
theorem Ad.aV {id:Nat}(h:Ad n E w .normal Q):Ad n E w (.exit id) (Exit.inBlock id Q):=fun a c=>by show (if id=id then _ else _);rw[if_pos rfl];exact h a c
theorem Ad.bD {id id':Nat}(d:Nat.beq id' id=false) (h:Ad n E w (.exit id') Q):Ad n E w (.exit id') (Exit.inBlock id Q):=fun a c=>by show (if id'=id then _ else _);rw[if_neg (fun e=>by subst e;simp at d)];exact h a c
class NeB (a b:Nat):Prop where
 out:Nat.beq a b=false
instance {b:Nat}:NeB 0 (b+1):=⟨rfl⟩
instance {a:Nat}:NeB (a+1) 0:=⟨rfl⟩
instance {a b:Nat} [h:NeB a b]:NeB (a+1) (b+1):=⟨h.out⟩
class JJ (goal:Prop) (sub:outParam Prop):Prop where
 go:sub->goal
instance (priority:=10) JJ.same (g:Prop):JJ g g:=⟨id⟩
section
variable {s:Prop}
instance [h:JJ (Ad n E w .normal Q) s] {ops:Array Oper}:JJ (Af P n E w ops [] Q) s:=⟨fun x=>Af.nil (h.go x)⟩
instance {x y:Code} [h:JJ (St P n E w x (Exit.then (y.wp P Q) Q)) s]:JJ (St P n E w (.seq x y) Q) s:=⟨fun x=>St.seq (h.go x)⟩
instance {id:Nat} {l:List Oper}:JJ (St P n E w (.region id l.toArray false) Q) (Af P n E w l.toArray l Q):=⟨St.region⟩
instance [h:JJ (Ad n E w .normal Q) s]:JJ (St P n E w .skip Q) s:=⟨fun x=>St.skip (h.go x)⟩
instance [h:JJ (Ad n E w .ret Q) s]:JJ (St P n E w .ret Q) s:=⟨fun x=>St.ret (h.go x)⟩
instance {id:Nat} [h:JJ (Ad n E w (.exit id) Q) s]:JJ (St P n E w (.exit id) Q) s:=⟨fun x=>St.exit (h.go x)⟩
instance {id:Nat} {c:Code} [h:JJ (St P n E w c (Exit.inBlock id Q)) s]:JJ (St P n E w (.block id c) Q) s:=⟨fun x=>St.block (h.go x)⟩
instance {y:Code} [h:JJ (St P n E w y Q) s]:JJ (Ad n E w .normal (Exit.then (y.wp P Q) Q)) s:=⟨fun x=>Ad.ak (h.go x)⟩
instance {K:Act->World->Prop} [h:JJ (Ad n E w .ret Q) s]:JJ (Ad n E w .ret (Exit.then K Q)) s:=⟨fun x=>Ad.dN (h.go x)⟩
instance {K:Act->World->Prop} {id:Nat} [h:JJ (Ad n E w (.exit id) Q) s]:JJ (Ad n E w (.exit id) (Exit.then K Q)) s:=⟨fun x=>Ad.aR (h.go x)⟩
instance {id:Nat} [h:JJ (Ad n E w .normal Q) s]:JJ (Ad n E w .normal (Exit.inBlock id Q)) s:=⟨fun x=>Ad.aL (h.go x)⟩
instance {id:Nat} [h:JJ (Ad n E w .ret Q) s]:JJ (Ad n E w .ret (Exit.inBlock id Q)) s:=⟨fun x=>Ad.dK (h.go x)⟩
instance {id:Nat} [h:JJ (Ad n E w .normal Q) s]:JJ (Ad n E w (.exit id) (Exit.inBlock id Q)) s:=⟨fun x=>Ad.aV (h.go x)⟩
instance {id id':Nat} [k:NeB id' id] [h:JJ (Ad n E w (.exit id') Q) s]:JJ (Ad n E w (.exit id') (Exit.inBlock id Q)) s:=⟨fun x=>Ad.bD k.out (h.go x)⟩
theorem Nv {a:Prop}{s:Prop} [h:JJ a s] (x:s):a:=h.go x
end
def WL {α:Type}(n:Nat) (Einv:α->List (Nat×Value)) (I:α->World->Prop) (μ:α->Nat) (g:α) (a:Act) (w:World):Prop :=
 ∃ g',DM n (Einv g') a/\I g' w/\μ g'<μ g
theorem St.loop {α:Type}(j:α->List (Nat×Value)) (I:α->World->Prop) (μ:α->Nat) {c:Code}(g0:α) (z:Xy (j g0) E) (m:I g0 w)
  (round:∀ g w,I g w->St P n (j g) w c (Exit.then (WL n j I μ g) Q)):St P n E w (.loop c) Q:=by
 intro a r;refine wp_loop_ghost (fun k a w=>∃ g,μ g=k/\DM n (j g) a/\I g w) (μ g0) ⟨g0,rfl,r.sub z,m⟩ ?_;rintro k a' w' ⟨g,rfl,u,o⟩;refine wp_mono (round g w' o a' u) ?_;intro e a2 w2 d;cases e with
 | normal =>
  obtain⟨g',v,q,y⟩:=d;exact⟨μ g',y,g',rfl,v,q⟩
 | exit id=>exact d
 | goto l=>exact d
 | ret=>exact d
 | panic ch=>exact d
 | outgrown=>exact d
theorem Ad.again {α:Type}{Einv:α->List (Nat×Value)}{I:α->World->Prop}{μ:α->Nat}{g:α}(g':α) (j:Xy (Einv g') E) (c:I g' w) (e:μ g'<μ g) :
  Ad n E w .normal (Exit.then (WL n Einv I μ g) Q):=fun _ d=>⟨g',d.sub j,c,e⟩
end rules
def AJ (Φ:Value->World->Prop) (e:Ending) (w:World):Prop:=∃ v,e=.returned v/\Φ v w
def GI:Nat->List Value->List (Nat×Value)
 | _,[]=>[]
 | k,v::r=>(k,v)::GI (k+1) r
theorem MN (l:List Value):∀ (s k:Nat) (v:Value),AR (GI s l) k=some v->s<=k/\l[k - s]?=some v:=by
 induction l with
 | nil=>intro s k v h;simp[GI,AR]at h
 | cons x r ih =>
  intro s k v h;by_cases e:s=k
  ·subst e;rw[GI,AF]at h;simpa using h
  ·rw[GI,Bc _ _ e]at h;obtain⟨d,c⟩:=ih (s+1) k v h;refine⟨by omega,?_⟩;have:k - s=(k - (s+1))+1:=by omega
   rw[this];simpa using c
theorem Sj {P:Program}{f:FuncId}{fn:Func}{c:Code}{args:List Value}{w:World}{Φ:Value->World->Prop}{n:Nat}
  (g:P.funcs[f]?=some fn) (e:fn.body=some c) (o:fn.ntmps=n) (l:Nat.ble args.length n=true)
  (h:St P n (GI 0 args) w c (bodyPost P fn (AJ Φ))):Calls P f args.toArray w (AJ Φ):=by
 refine calls_of_wp g e (h _ ⟨?_,rfl,?_⟩)
 ·have:=Jr l;simp[o];omega
 ·intro k v j;obtain⟨_,d⟩:=MN args 0 k v j;simp only[PT]at d;have m:k<args.length:=(Au.1 d).1;rw[Array.getElem?_append_left (by simpa using m)];simpa using d
theorem cS {P:Program}{f:FuncId}{fn:Func}{c:Code}{args:List Value}{w:World}{Φ:Value->World->Prop}{n:Nat}(e:P.funcs[f]?=some fn) (j:fn.ntmps=n) (h:St P n (GI 0 args) w c (bodyPost P fn (AJ Φ))) (d:fn.body=some c:=by exact rfl) (g:Nat.ble args.length n=true:=by exact rfl):Calls P f args.toArray w (AJ Φ):=Sj e d j g h
theorem Ad.ax {P:Program}{fn:Func}{n:Nat}{E:List (Nat×Value)}{w:World}{Φ:Value->World->Prop}{t:Tmp}{v:Value}(d:fn.results=#[.tmp t]) (hv:AR E t=some v) (h:Φ v w) :
  Ad n E w .ret (bodyPost P fn (AJ Φ)):=fun a c =>
 bodyPost_ret (results_tmp d _ P w) c.defers ⟨_,rfl,by rw[show a.tmps.getD t undef=v from by simp[EK,c.slots t v hv]];exact h⟩
theorem uR {P:Program}{fn:Func}{n:Nat}{E:List (Nat×Value)}{w:World}{Φ:Value->World->Prop}{t:Tmp}{v:Value}(h:Φ v w) (c:fn.results=#[.tmp t]:=by exact rfl) (hv:AR E t=some v:=by exact rfl):
  Ad n E w .ret (bodyPost P fn (AJ Φ)):=Ad.ax c hv h
theorem Ad.bI {P:Program}{fn:Func}{n:Nat}{E:List (Nat×Value)}{w:World}{Φ:Value->World->Prop}{t u:Tmp}{x y:Value}(d:fn.results=#[.tmp t,.tmp u]) (e:AR E t=some x) (g:AR E u=some y) (h:Φ (.tuple #[x,y]) w) :
  Ad n E w .ret (bodyPost P fn (AJ Φ)):=fun a c =>
 bodyPost_ret (results_tmp2 d _ P w) c.defers ⟨_,rfl,by rw[show a.tmps.getD t undef=x from by simp[EK,c.slots t x e],show a.tmps.getD u undef=y from by simp[EK,c.slots u y g]];exact h⟩
structure TI where
 desc:TypeDesc
 size:Nat
 bytes:Nat
 zero:Value
def AG:List (Nat×TI)->Nat->Option TI
 | [],_=>none
 | (k,v)::r,n=>bif Nat.beq k n then some v else AG r n
def Aw (P:Program) (T:List (Nat×TI)):Prop :=
 ∀ t i,AG T t=some i->P.underlying t=some i.desc/\∃ inf,P.info? t=some inf/\inf.size=i.size/\inf.bytes=i.bytes/\inf.zero=some i.zero
theorem Aw.nil (P:Program):Aw P []:=fun t i h=>by simp[AG]at h
theorem Aw.cons {P:Program}{T:List (Nat×TI)}{k:Nat}{i:TI}(hu:P.underlying k=some i.desc)
  (c:(P.info? k).map (fun x=>(x.size,x.bytes,x.zero))=some (i.size,i.bytes,some i.zero)) (h:Aw P T):Aw P ((k,i)::T):=by
 intro t j d;by_cases e:k=t
 ·subst e;simp[AG]at d;subst d;cases hx:P.info? k with
  | none=>rw[hx]at c;simp at c
  | some x =>
   rw[hx]at c;simp at c;exact⟨hu,x,rfl,c.1,c.2.1,c.2.2⟩
 ·have g:Nat.beq k t=false:=by
   cases g:Nat.beq k t
   ·rfl
   ·exact absurd (J3 g) e
  simp[AG,g]at d;exact h t j d
def Km (op:BinOp) (k:IntKind) (x y:Int):Int :=
 match op with
 | .and=>k.wrap (BitVec.ofInt k.bits x &&& BitVec.ofInt k.bits y).toNat
 | .or=>k.wrap (BitVec.ofInt k.bits x ||| BitVec.ofInt k.bits y).toNat
 | .xor=>k.wrap (BitVec.ofInt k.bits x ^^^ BitVec.ofInt k.bits y).toNat
 | _=>k.wrap (BitVec.ofInt k.bits x &&& ~~~ BitVec.ofInt k.bits y).toNat
def Xz (op:BinOp) (x y:Value):Option Value :=
 match x,y with
 | .int k a,.int k' b =>
  match op with
  | .shl=>none
  | .shr=>none
  | .quo=>none
  | .rem=>none
  | .add=>bif k == k' then some (.int k (k.wrap (a+b))) else none
  | .sub=>bif k == k' then some (.int k (k.wrap (a - b))) else none
  | .mul=>bif k == k' then some (.int k (k.wrap (a * b))) else none
  | .and=>bif k == k' then some (.int k (Km .and k a b)) else none
  | .or=>bif k == k' then some (.int k (Km .or k a b)) else none
  | .xor=>bif k == k' then some (.int k (Km .xor k a b)) else none
  | .andNot=>bif k == k' then some (.int k (Km .andNot k a b)) else none
  | .eql=>bif k == k' then some (.bool (a == b)) else none
  | .neq=>bif k == k' then some (.bool (a != b)) else none
  | .lss=>bif k == k' then some (.bool (decide (a<b))) else none
  | .leq=>bif k == k' then some (.bool (decide (a<=b))) else none
  | .gtr=>bif k == k' then some (.bool (decide (a > b))) else none
  | .geq=>bif k == k' then some (.bool (decide (a>=b))) else none
 | _,_=>none
def O5 (op:BinOp) (x:Value) (y:Operand):Option Value :=
 match x,y with
 | .int k a,.const (.int _ (.ofNat s)) =>
  match op with
  | .shl=>bif Nat.ble s k.bits then some (.int k (k.wrap (a * 2 ^ s))) else none
  | .shr=>bif Nat.ble s k.bits then some (.int k (a / 2 ^ s)) else none
  | _=>none
 | _,_=>none
def DJ:TypeDesc->Bool
 | .struct _=>true
 | .array _ _=>true
 | _=>false
def A4f (op:UnOp) (x:Value):Option Value :=
 match op,x with
 | .neg,.int k a=>some (.int k (k.wrap (0 - a)))
 | .not,.bool b=>some (.bool !b)
 | _,_=>none
def A2e:BinOp->Bool
 | .shl=>true
 | .shr=>true
 | _=>false
def Z0 (T:List (Nat×TI)) (E:List (Nat×Value)) (c:Call):Option Value :=
 match c.callee with
 | .builtin .len =>
  match c.args.toList,c.argTypes.toList with
  | [x],[t] =>
   match AG T t,ov E x with
   | some ⟨.slice _,_,_,_⟩,some (.slice _ m _)=>some (.int .i64 m)
   | some ⟨.string,_,_,_⟩,some (.string s)=>some (.int .i64 s.size)
   | _,_=>none
  | _,_=>none
 | _=>none
def Ht (T:List (Nat×TI)) (E:List (Nat×Value)):Op->Option Value
 | .move x=>ov E x
 | .assign x=>ov E x
 | .pick c a b =>
  match ov E c with
  | some (.bool true)=>ov E a
  | some (.bool false)=>ov E b
  | _=>none
 | .binOp op _ x y _ =>
  match ov E x with
  | some u=>bif A2e op then O5 op u y else
   match ov E y with
   | some v=>Xz op u v
   | none=>none
  | none=>none
 | .unOp op _ x =>
  match ov E x with
  | some u=>A4f op u
  | none=>none
 | .convert src dst x =>
  match AG T src,AG T dst,ov E x with
  | some _,some ⟨.int k,_,_,_⟩,some (.int _ m)=>some (.int k (k.wrap m))
  | _,_,_=>none
 | .extract x i =>
  match ov E x with
  | some (.tuple vs)=>vs[i]?
  | _=>none
 | .field t x i =>
  match AG T t,ov E x with
  | some ⟨.struct fs,_,_,_⟩,some (.agg cs) =>
   match fs[i]? with
   | some f=>match AG T f.type with
    | some ti=>bif DJ ti.desc then some (.agg (cs.extract f.offset (f.offset+ti.size))) else cs[f.offset]?
    | none=>none
   | none=>none
  | _,_=>none
 | .fieldAddr t x i =>
  match AG T t,ov E x with
  | some ⟨.struct fs,_,_,_⟩,some (.pointer (some a)) =>
   match fs[i]? with
   | some f=>match AG T f.type with
    | some ti=>bif Nat.beq ti.size 0 then none else some (.pointer (some (a.add f.offset)))
    | none=>none
   | none=>none
  | _,_=>none
 | .nilCheck x =>
  match ov E x with
  | some (.pointer (some a))=>some (.pointer (some a))
  | _=>none
 | .call c=>Z0 T E c
 | _=>none
section
variable {P:Program}{T:List (Nat×TI)}{n:Nat}{E:List (Nat×Value)}{a:Act}{w:World}
theorem Ag (c:Aw P T) {t:Nat}{i:TI}(h:AG T t=some i):(underlying t).run P w=.ok i.desc w:=by have:=(c t i h).1;simp[underlying,this,go_sem]
theorem AK (c:Aw P T) {t:Nat}{i:TI}(h:AG T t=some i):(sizeOf t).run P w=.ok i.size w:=by obtain⟨_,inf,d,e,_,_⟩:=c t i h;simp[sizeOf,typeInfo,d,e,go_sem]
theorem FH (c:Aw P T) {t:Nat}{i:TI}(h:AG T t=some i):(isAgg t).run P w=.ok (DJ i.desc) w:=by have:=(c t i h).1;unfold isAgg;simp only[Bq,Ag c h];cases hd:i.desc <;> simp[DJ,go_sem]
theorem Z1 {op:BinOp}{x y v:Value}{xt:TypeId}{ox oy:Operand}(h:Xz op x y=some v) :
  ((do eqGuard op xt ox oy x y;binOp op xt x y):Sem Value).run P w=.ok v w:=by
 cases x <;> cases y <;> simp only[Xz]at h <;> try (cases h;done)
 rename_i k m k' m';have c:k=k':=by
  cases op <;> simp only[]at h <;> first | (cases h;done) | (
   cases hkk:(k == k') with
   | true=>exact eq_of_beq hkk
   | false=>rw[hkk]at h;cases h)
 subst c;cases op <;> simp only[beq_self_eq_true,cond_true,AP]at h <;> first
  | (cases h;done)
  | (subst h;simp[eqGuard,binOp,Op.intArith,Op.intCmp,Op.intBits,Km,go_sem])
theorem W9 {op:BinOp}{x v:Value}{xt:TypeId}{ox oy:Operand}(h:O5 op x oy=some v) {y:Value}(g:ov E oy=some y) :
  ((do eqGuard op xt ox oy x y;binOp op xt x y):Sem Value).run P w=.ok v w:=by
 unfold O5 at h;split at h
 ·rename_i k m yk s;simp only[ov,AP]at g;subst g;have e:((Int.ofNat s).toNat)=s:=rfl;have en:¬ (Int.ofNat s<0):=by simp
  cases op <;> simp only[]at h <;> try (cases h;done)
  ·cases hb:Nat.ble s k.bits with
   | false=>rw[hb]at h;cases h
   | true =>
    have c:=Jr hb;rw[hb]at h;simp only[cond_true,AP]at h;subst h;have d:Op.shift .shl k m yk (Int.ofNat s)=Pure.pure (.int k (k.wrap (m * 2 ^ s))):=by unfold Op.shift;rw[if_neg en];simp only[e,H8 c]
    simp only[eqGuard,binOp,d];simp[go_sem]
  ·cases hb:Nat.ble s k.bits with
   | false=>rw[hb]at h;cases h
   | true =>
    have c:=Jr hb;rw[hb]at h;simp only[cond_true,AP]at h;subst h;have j:(0:Int)<=2 ^ s:=LA (Int.pow_pos de);have d:Op.shift .shr k m yk (Int.ofNat s)=Pure.pure (.int k (m / 2 ^ s)):=by unfold Op.shift;rw[if_neg en];simp only[e,H8 c,Int.fdiv_eq_ediv_of_nonneg _ j]
    simp only[eqGuard,binOp,d];simp[go_sem]
 ·cases h
theorem Uq (j:Aw P T) {ρ:Operand->Value}(d:∀ {x v},ov E x=some v->ρ x=v) {o:Oper}{v:Value}(h:Ht T E o.op=some v):(execOp ρ o).run P w=.ok (.value v) w:=by
 obtain⟨dst,op,ty,pos,after,guard⟩:=o;simp only at h;cases op <;> simp only[Ht]at h <;> try (cases h;done)
 case move x=>simp[execOp,d h,go_sem]
 case assign x=>simp[execOp,d h,go_sem]
 case pick c x y =>
  split at h
  ·rename_i a;simp[execOp,d a,d h,go_sem,asBool]
  ·rename_i a;simp[execOp,d a,d h,go_sem,asBool]
  ·cases h
 case binOp op xt x y yt =>
  split at h
  ·rename_i u hu;cases r:A2e op with
   | true =>
    rw[r]at h;simp only[cond_true]at h;have q:∃ yv,ov E y=some yv:=by
     unfold O5 at h;split at h
     ·exact⟨_,rfl⟩
     ·cases h
    obtain⟨yv,q⟩:=q;have:=W9 (P:=P) (w:=w) (xt:=xt) (ox:=x) h q;simp only[execOp,d hu,d q];simp only[Bq]at this ⊢;simp[this]
   | false =>
    rw[r]at h;simp only[cond_false]at h;split at h
    ·rename_i yv q;have:=Z1 (P:=P) (w:=w) (xt:=xt) (ox:=x) (oy:=y) h;simp only[execOp,d hu,d q];simp only[Bq]at this ⊢;simp[this]
    ·cases h
  ·cases h
 case unOp op xt x =>
  split at h
  ·rename_i u hu;unfold A4f at h;split at h
   ·cases h;simp[execOp,d hu,Op.unary,Op.intArith,go_sem]
   ·cases h;simp[execOp,d hu,Op.unary,go_sem]
   ·cases h
  ·cases h
 case convert src dst x =>
  split at h
  ·rename_i i0 k _ _ _ k2 m r A g;simp only[AP]at h;subst h;simp[execOp,convert,d g,Ag j r,Ag j A,Conv.intToInt,go_sem]
  ·cases h
 case extract x i =>
  split at h
  ·rename_i vs g;simp[execOp,d g,Instr.extract,h,go_sem]
  ·cases h
 case field t x i =>
  split at h
  ·rename_i fs _ _ _ cs l g;split at h
   ·rename_i f b;split at h
    ·rename_i ti z;simp only[execOp,Instr.field,d g,Bq,Ag j l,Bp,b,asAgg,part,FH j z];cases hag:DJ ti.desc with
     | true =>
      rw[hag]at h;simp only[cond_true,AP]at h;subst h;simp[AK j z,go_sem]
     | false =>
      rw[hag]at h;simp only[cond_false]at h;simp[h,go_sem]
    ·cases h
   ·cases h
  ·cases h
 case fieldAddr t x i =>
  split at h
  ·rename_i fs _ _ _ ad l g;split at h
   ·rename_i f b;split at h
    ·rename_i ti z;cases hz:Nat.beq ti.size 0 with
     | true=>rw[hz]at h;cases h
     | false =>
      rw[hz]at h;simp only[cond_false,AP]at h;subst h;have B:¬ ti.size=0:=fun e=>by rw[e]at hz;cases hz
      simp[execOp,Instr.fieldAt,d g,Ag j l,b,Instr.sureAddr,fieldPlace,AK j z,B,go_sem]
    ·cases h
   ·cases h
  ·cases h
 case nilCheck x =>
  split at h
  ·rename_i ad g;simp only[AP]at h;subst h;simp[execOp,d g,go_sem]
  ·cases h
 case call c =>
  obtain⟨callee,args,argTypes⟩:=c;unfold Z0 at h;simp only at h;split at h <;> try (cases h;done)
  split at h
  ·rename_i x t p C;have n:args=#[x]:=by rw[<- Array.toArray_toList (xs:=args),p]
   have hB:argTypes=#[t]:=by rw[<- Array.toArray_toList (xs:=argTypes),C]
   subst n hB;split at h
   ·rename_i e _ _ _ ad m c l g;simp only[AP]at h;subst h;simp[Builtin.len_,d g,Ag j l,goInt,go_sem]
   ·rename_i _ _ _ s l g;simp only[AP]at h;subst h;simp[Builtin.len_,d g,Ag j l,goInt,go_sem]
   ·cases h
  ·cases h
theorem Av.pure (d:Aw P T) {o:Oper}{v:Value}(h:Ht T E o.op=some v):Av P n o E w (fun v' w'=>v=v'/\w=w'):=by intro a e Q K c;unfold Oper.wp;rw[Uq d (fun g=>e.eval g) h,Oper.upon_value];exact c v w ⟨rfl,rfl⟩
def AZ (T:List (Nat×TI)) (n:Nat) (ops:Array Oper):Nat->List (Nat×Value)->List Oper->List (Nat×Value)×List Oper
 | 0,E,l=>(E,l)
 | _+1,E,[]=>(E,[])
 | m+1,E,o::r =>
  match o.dst,Bg ops E o.guard with
  | some d,some true =>
   bif Nat.blt d n then
    match Ht T E o.op with
    | some v=>AZ T n ops m ((d,v)::E) r
    | none=>(E,o::r)
   else (E,o::r)
  | some d,some false=>bif Nat.blt d n then AZ T n ops m ((d,undef)::E) r else (E,o::r)
  | _,_=>(E,o::r)
theorem Af.run (j:Aw P T) {ops:Array Oper}{Q:Exit->Act->World->Prop}:∀ (m:Nat) {E E':List (Nat×Value)}{l l':List Oper},AZ T n ops m E l=(E',l')->Af P n E' w ops l' Q->Af P n E w ops l Q:=by
 intro m;induction m with
 | zero=>intro E E' l l' h c;simp only[AZ,Fh]at h;obtain⟨rfl,rfl⟩:=h;exact c
 | succ m ih =>
  intro E E' l l' h c;cases l with
  | nil=>simp only[AZ,Fh]at h;obtain⟨rfl,rfl⟩:=h;exact c
  | cons o r =>
   simp only[AZ]at h;split at h
   ·rename_i d e g;cases hb:Nat.blt d n with
    | false=>rw[hb]at h;simp only[cond_false,Fh]at h;obtain⟨rfl,rfl⟩:=h;exact c
    | true =>
     rw[hb]at h;simp only[cond_true]at h;split at h
     ·rename_i v hv;refine Af.step e g hb (Av.pure j hv) ?_;rintro v' w' ⟨rfl,rfl⟩;exact ih h c
     ·simp only[Fh]at h;obtain⟨rfl,rfl⟩:=h;exact c
   ·rename_i d e g;cases hb:Nat.blt d n with
    | false=>rw[hb]at h;simp only[cond_false,Fh]at h;obtain⟨rfl,rfl⟩:=h;exact c
    | true =>
     rw[hb]at h;simp only[cond_true]at h;exact Af.skip e g hb (ih h c)
   ·simp only[Fh]at h;obtain⟨rfl,rfl⟩:=h;exact c
theorem Af.as (c:Aw P T) {ops:Array Oper}{Q:Exit->Act->World->Prop}(m:Nat) {E E':List (Nat×Value)}{l l':List Oper}{d:Nat}{v:Value}(v':Value) (h:AZ T n ops m E l=((d,v)::E',l')) (hv:v=v') (e:Af P n ((d,v')::E') w ops l' Q):Af P n E w ops l Q :=
 Af.run c m (hv ▸ h) e
theorem Aa {p:Prop} [Decidable p] (h:p):Value.bool (decide p)=.bool true:=by rw[decide_eq_true h]
theorem A9 {p:Prop} [Decidable p] (h:¬ p):Value.bool (decide p)=.bool false:=by rw[decide_eq_false h]
end
variable {w':World}{i b c s1 s2 cap off:Nat}{t ty e et:TypeId}{af:Array Edge}{g:Option (Nat×Bool)}{x:Operand}{d:Option Tmp}{C cs:List Value}{z:Value}{ti et1:TI}{Φ:Value->World->Prop}{o:Oper}{iv:Int}
abbrev Ac (w w':World):Prop:=Below w.heap.size w w'
theorem Ac.refl (w:World):Ac w w:=Below.refl _ _
theorem Ac.trans {a b c:World}(h:Ac a b) (k:Ac b c):Ac a c:=Below.trans h (Below.mono k h.size)
theorem Ac.drewN {w:World}(h:Ac w w') (m:Nat):Ac w (w'.drewN m):=⟨h.os,h.tape,h.output,h.size,h.block⟩
def Aj (e:TypeId) (w:World) (b:Nat) (C:List Value):Prop:=w.heap[b]?=some (.cells C.toArray e (0,0))
theorem Aj.lt {w:World}(h:Aj e w b C):b<w.heap.size:=(Gt.1 h).1
theorem Aj.ext {w:World}(h:Aj e w b C) (c:Ac w w'):Aj e w' b C:=(c.block b h.lt).trans h
theorem Aj.drewN {w:World}(h:Aj e w b C) (m:Nat):Aj e (w.drewN m) b C:=h
theorem Aj.cell {w:World}(h:Aj e w b C) {v:Value}(c:C[i]?=some v):w.cell? ⟨b,i,none⟩=some v:=by unfold Aj at h;simp[World.cell?,h,c]
theorem Aj.frozen {w:World}(h:Aj e w b C) (i:Nat) (s:Option Nat):w.frozen? ⟨b,i,s⟩=false:=by unfold Aj at h;simp[World.frozen?,h]
structure CE (b:Nat) (w w':World):Prop where
 os:w'.os=w.os
 tape:w'.tape=w.tape
 output:w'.output=w.output
 size:w.heap.size<=w'.heap.size
 block:∀ k,k<w.heap.size->k≠b->w'.heap[k]?=w.heap[k]?
theorem CE.refl (b:Nat) (w:World):CE b w w:=⟨rfl,rfl,rfl,Ai _,fun _ _ _=>rfl⟩
theorem CE.trans {x y z:World}(h:CE b x y) (k:CE b y z):CE b x z :=
 ⟨k.os.trans h.os,k.tape.trans h.tape,k.output.trans h.output,Ar h.size k.size,fun i d c=>(k.block i (CW d h.size) c).trans (h.block i d c)⟩
theorem Ac.upd {w:World}(h:Ac w w') (b:Nat):CE b w w':=⟨h.os,h.tape,h.output,h.size,fun k c _=>h.block k c⟩
theorem Ac.aj {w w'':World}(h:Ac w w') (k:CE b w' w'') (d:w.heap.size<=b):Ac w w'' :=
 ⟨k.os.trans h.os,k.tape.trans h.tape,k.output.trans h.output,Ar h.size k.size,fun i c=>(k.block i (CW c h.size) oo).trans (h.block i c)⟩
theorem Aj.upd {w:World}(h:Aj e w b C) (g:CE c w w') (d:b≠c):Aj e w' b C:=(g.block b h.lt d).trans h
theorem Ac.cell {w:World}(e:Ac w w') {a:Addr}{v:Value}(h:w.cell? a=some v):w'.cell? a=some v:=by
 have d:a.block<w.heap.size:=by
  unfold World.cell? at h;split at h
  ·rename_i c;exact (Gt.1 c).1
  ·cases h
 unfold World.cell? at h ⊢;rw[e.block _ d];exact h
theorem CE.cell {w:World}(g:CE b w w') {a:Addr}{v:Value}(h:w.cell? a=some v) (e:a.block≠b):w'.cell? a=some v:=by
 have d:a.block<w.heap.size:=by
  unfold World.cell? at h;split at h
  ·rename_i c;exact (Gt.1 c).1
  ·cases h
 unfold World.cell? at h ⊢;rw[g.block _ d e];exact h
def Jk (_e:TypeId) (w:World) (v:Value) (cs:List Value):Prop :=
 ∃ p cap,v=.slice p cs.length cap/\cs.length<=cap/\(p=none->cap=0)/\∀ a,p=some a->∀ i c,cs[i]?=some c->w.cell? (a.add i)=some c
theorem Jk.ext {w:World}{v:Value}(h:Jk e w v cs) (m:Ac w w'):Jk e w' v cs:=by obtain⟨p,cap,hv,l,d,j⟩:=h;exact⟨p,cap,hv,l,d,fun a g i c k=>m.cell (j a g i c k)⟩
def WM (b:Nat) (v:Value):Prop:=∀ c off s len cap,v=.slice (some ⟨c,off,s⟩) len cap->c≠b
theorem DW (a:Addr) (i:Nat):(a.add i).block=a.block:=by unfold Addr.add;split <;> rfl
theorem Jk.upd {w:World}{v:Value}(h:Jk e w v cs) (o:CE b w w') (j:WM b v):Jk e w' v cs:=by obtain⟨p,cap,hv,m,g,k⟩:=h;refine⟨p,cap,hv,m,g,fun a d i c l=>o.cell (k a d i c l) ?_⟩;rw[DW];subst d;exact j a.block a.off a.spot _ _ hv
theorem Jk.get {w:World}{v:Value}(h:Jk e w v cs) {c:Value}(d:cs[i]?=some c) :
  ∃ a cap,v=.slice (some a) cs.length cap/\w.cell? (a.add i)=some c:=by
 have l:i<cs.length:=(Au.1 d).1;obtain⟨p,cap,hv,k,g,j⟩:=h;cases p with
 | none=>have:=g rfl;omega
 | some a=>exact⟨a,cap,hv,j a rfl i c d⟩
theorem Jk.len {w:World}{v:Value}(h:Jk e w v cs):∃ p cap,v=.slice p cs.length cap:=by obtain⟨p,cap,hv,_⟩:=h;exact⟨p,cap,hv⟩
theorem Jk.dO {w:World}{len:Nat}(h:Jk e w (.slice none len cap) cs):cs=[]:=by obtain⟨p,cap',hv,d,c,_⟩:=h;simp only[Ci]at hv;have:=c hv.1.symm;exact FA oo
def A0 (P:Program) (n:Nat) (o:Oper) (E:List (Nat×Value)) (w:World) (v:Value):Prop :=
 ∀ a,DM n E a->(execOp a.eval o).run P w=.ok (.value v) w
section
variable {P:Program}{T:List (Nat×TI)}{n:Nat}{E:List (Nat×Value)}{w:World}
theorem A0.op {v:Value}(h:A0 P n o E w v):Av P n o E w (fun v' w'=>v=v'/\w=w'):=by intro a d Q K c;unfold Oper.wp;rw[h a d,Oper.upon_value];exact c v w ⟨rfl,rfl⟩
theorem A0.pure (c:Aw P T) {v:Value}(h:Ht T E o.op=some v):A0 P n o E w v :=
 fun _ d=>Uq c (fun e=>d.eval e) h
theorem A0.indexAddr (c:Aw P T) {i:Operand}{pos:String}{a:Addr}{len:Nat}{k:IntKind}
  (q:AG T t=some ⟨.slice et,s1,s2,z⟩) (r:AG T et=some et1) (o:et1.size=1) (u:ov E x=some (.slice (some a) len cap)) (m:ov E i=some (.int k iv)) (j:0<=iv) (l:iv<len) :
  A0 P n ⟨d,.indexAddr t x i,ty,pos,af,g⟩ E w (.pointer (some (a.add iv.toNat))):=by intro b e;have e1:=e.eval u;have e2:=e.eval m;generalize b.eval=ρ at e1 e2;simp[execOp,Instr.indexAt,e1,e2,Ag c q,AK c r,o,j,l,asIntOf,go_sem]
theorem Rk {a:Addr}{v:Value}(c:w.cell? a=some v):(Go.load a).run P w=.ok v w:=by unfold Go.load;simp only[Sem.run,c]
theorem A0.load (c:Aw P T) {pos:String}{a:Addr}{v:Value}
  (l:AG T t=some ti) (e:DJ ti.desc=false) (m:ov E x=some (.pointer (some a))) (k:w.cell? a=some v) :
  A0 P n ⟨d,.load t x,ty,pos,af,g⟩ E w v:=by intro b j;have e1:=j.eval m;generalize b.eval=ρ at e1;simp[execOp,Instr.loadAt,Instr.sureAddr,loadVar,e1,FH c l,e,k,go_sem]
theorem Kn (h:Aj e w b C) (off:Nat):∀ (m i:Nat) (acc:Array Value),off+i+m<=C.length ->
  (loadCellsFrom ⟨b,off,none⟩ i m acc).run P w=.ok (acc++((C.drop (off+i)).take m).toArray) w:=by
 intro m;induction m with
 | zero=>intro i acc _;simp[loadCellsFrom,go_sem]
 | succ m ih =>
  intro i acc k;have c:off+i<C.length:=by omega
  have g:w.cell? (Addr.add ⟨b,off,none⟩ i)=some C[off+i]:=by
   have:Addr.add ⟨b,off,none⟩ i=⟨b,off+i,none⟩:=by
    unfold Addr.add;split
    ·rename_i d;subst d;rfl
    ·rfl
   rw[this];exact h.cell (by simp[c])
  unfold loadCellsFrom;simp only[Bq];have j:(Go.load (Addr.add ⟨b,off,none⟩ i)).run P w=.ok C[off+i] w:=Rk g;rw[j,Bp,ih (i+1) _ oo];congr 1;rw[ED c,List.take_succ_cons,show off+(i+1)=off+i+1 from by omega];simp
theorem A0.aA (c:Aw P T) {pos:String}
  (k:AG T t=some ti) (m:DJ ti.desc=true) (r:ov E x=some (.pointer (some ⟨b,off,none⟩))) (o:Aj e w b C) (u:off+ti.size<=C.length) (q:(C.drop off).take ti.size=cs) :
  A0 P n ⟨d,.load t x,ty,pos,af,g⟩ E w (.agg cs.toArray):=by intro a l;have e1:=l.eval r;generalize a.eval=ρ at e1;have j:=Kn (P:=P) o off ti.size 0 #[] oo;simp only[Ep,q]at j;simp[execOp,Instr.loadAt,Instr.sureAddr,loadVar,e1,FH c k,m,AK c k,loadCells,j,go_sem]
end
theorem AL {p:Prop}(h:p:=by repeat first | exact True.intro | refine And.intro rfl ?_):p:=h
theorem EC {p:Prop}(h:p:=by first | assumption | exact Ac.refl _ | (first | apply Aj.ext | apply Ao.ext | apply KP.ext | apply Sl.ext | apply Ei.ext | apply Dn.ext | apply It.ext | apply Bk.ext | apply Pv.ext | skip) <;> (repeat first | assumption | refine Ac.trans ?_ (by assumption))):p:=h
section
variable {P:Program}{n:Nat}{E:List (Nat×Value)}{w:World}{ops:Array Oper}{rest:List Oper}{Q:Exit->Act->World->Prop}
theorem St.cF {c:Operand}{x y:Code}{b:Bool}(g:St P n E w y Q) (d:ov E c=some (.bool b):=by exact rfl) (e:b=false:=by exact rfl):St P n E w (.cond c x y) Q:=St.ay d e g
theorem St.cT {c:Operand}{x y:Code}{b:Bool}(g:St P n E w x Q) (d:ov E c=some (.bool b):=by exact rfl) (e:b=true:=by exact rfl):St P n E w (.cond c x y) Q:=St.aD d e g
theorem Af.s {d:Nat}(h:Av P n o E w Φ) (next:∀ v w',Φ v w'->Af P n ((d,v)::E) w' ops rest Q) (c:o.dst=some d:=by rfl) (g:Bg ops E o.guard=some true:=by rfl) (e:Nat.blt d n=true:=by rfl):Af P n E w ops (o::rest) Q:=Af.step c g e h next
theorem Af.p {d:Nat}{v:Value}(h:A0 P n o E w v) (next:Af P n ((d,v)::E) w ops rest Q) (c:o.dst=some d:=by rfl) (g:Bg ops E o.guard=some true:=by rfl) (e:Nat.blt d n=true:=by rfl):Af P n E w ops (o::rest) Q:=Af.step c g e h.op (by rintro _ _ ⟨rfl,rfl⟩;exact next)
end
variable {base:Nat}{vs:List Value}{jv:Int}{k':IntKind}
theorem Aj.set {w:World}(h:Aj e w b C) (i:Nat) (v:Value):Aj e (w.setCell ⟨b,i,none⟩ v) b (C.set i v):=by
 unfold Aj at *
 simp[World.setCell,Array.getElem?_modify,h]
theorem Z2 (w:World) (b i:Nat) (s:Option Nat) (v:Value):CE b w (w.setCell ⟨b,i,s⟩ v) :=
 ⟨rfl,rfl,rfl,by simp[World.setCell],fun k _ c=>by simp only[World.setCell,Array.getElem?_modify];rw[if_neg (fun e=>c e.symm)]⟩
section
variable {P:Program}{T:List (Nat×TI)}{n:Nat}{E:List (Nat×Value)}{w:World}
theorem A0B (h:Aj e w b C) (g:i<C.length) {v:Value}(hv:v.oneCell'=true):(Go.store ⟨b,i,none⟩ v).run P w=.ok () (w.setCell ⟨b,i,none⟩ v):=by have c:w.cell? ⟨b,i,none⟩=some C[i]:=h.cell (by simp[g]);have d:=h.frozen i none;unfold Go.store;cases v <;> simp[Value.oneCell']at hv <;> simp[Sem.run,c,d]
def Fl (C:List Value) (k:Nat):List Value->List Value
 | []=>C
 | v::r=>Fl (C.set k v) (k+1) r
theorem MO:∀ (vs:List Value) (w:World) (C:List Value) (i:Nat),Aj e w b C->off+i+vs.length<=C.length->(∀ u ∈ vs,u.oneCell'=true) ->
  ∃ w',(storeCells ⟨b,off,none⟩ vs i).run P w=.ok () w'/\Aj e w' b (Fl C (off+i) vs)/\CE b w w':=by
 intro vs;induction vs with
 | nil=>intro w C i h _ _;exact⟨w,by simp[storeCells,go_sem],h,CE.refl _ _⟩
 | cons v r ih =>
  intro w C i h d c;have j:Addr.add ⟨b,off,none⟩ i=⟨b,off+i,none⟩:=by
   unfold Addr.add;split
   ·rename_i g;subst g;rfl
   ·rfl
  have m:=A0B (P:=P) h (i:=off+i) (by simp at d;omega) (c v sm);obtain⟨w',l,k,hu⟩:=ih (w.setCell ⟨b,off+i,none⟩ v) (C.set (off+i) v) (i+1) (h.set _ _) (by simp at d ⊢;omega) (fun u hu=>c u (by simp[hu]));refine⟨w',?_,?_,(Z2 _ _ _ _ _).trans hu⟩
  ·simp only[storeCells,Bq,j,m,Bp];exact l
  ·simpa[Fl,HS] using k
theorem Av.store (m:Aw P T) {y:Operand}{pos:String}{v:Value}
  (p:AG T t=some ti) (s:ov E x=some (.pointer (some ⟨b,off,none⟩))) (A:ov E y=some v) (j:v.cells.toList=vs) (i:vs.length=ti.size) (o:Aj e w b C) (r:off+vs.length<=C.length) (k:∀ u ∈ vs,u.oneCell'=true) :
  Av P n ⟨d,.store t x y,ty,pos,af,g⟩ E w (fun _ w'=>Aj e w' b (Fl C off vs)/\CE b w w'):=by
 intro a c Q K l;obtain⟨w',f,q,hu⟩:=MO (P:=P) vs w C 0 o (by simpa using r) k;have e1:=c.eval s;have e2:=c.eval A;have z:¬ (v.cells.size≠ti.size):=by rw[<- i,<- j];simp
 have h:(execOp a.eval ⟨d,.store t x y,ty,pos,af,g⟩).run P w=.ok .skip w':=by generalize a.eval=ρ at e1 e2;simp only[execOp,e1,e2,Instr.storeAt,Instr.sureAddr,storeVar,Bq,AK m p,Bp,AX,if_neg z,j,f]
 unfold Oper.wp;rw[h,Oper.upon_skip];exact l undef w' ⟨by simpa using q,hu⟩
theorem DN (w:World) (e:TypeId) (C:Array Value):Aj e (w.alloc (.cells C e (0,0))) w.heap.size C.toList:=by show (w.heap.push _)[w.heap.size]?=_;simp
theorem Dc (w:World) (o:Obj):(w.alloc o).heap.size=w.heap.size+1:=by show (w.heap.push o).size=_;simp
theorem Da (w:World) (o:Obj):Ac w (w.alloc o):=(Below.refl _ _).alloc AO o
theorem Av.alloc (e:Aw P T) {pos:String}(l:AG T t=some ti) :
  Av P n ⟨d,.alloc t,ty,pos,af,g⟩ E w (fun v w'=>v=.pointer (some ⟨w.heap.size,0,none⟩)/\Aj t w' w.heap.size ti.zero.cells.toList/\Ac w w'/\w'.heap.size=w.heap.size+1):=by
 intro a o Q K c;obtain⟨_,inf,j,_,_,m⟩:=e t ti l;have k:(execOp a.eval ⟨d,.alloc t,ty,pos,af,g⟩).run P w=.ok (.value (.pointer (some ⟨w.heap.size,0,none⟩))) (w.alloc (.cells ti.zero.cells t (0,0))):=by simp[execOp,Instr.alloc,zeroValue,typeInfo,j,m,newVar,newRow,go_sem]
 unfold Oper.wp;rw[k,Oper.upon_value];exact c _ _ ⟨rfl,DN _ _ _,Da _ _,Dc _ _⟩
theorem Av.box {pos:String}{v:Value}(k:ov E x=some v) :
  Av P n ⟨d,.box t x,ty,pos,af,g⟩ E w (fun u w'=>u=.pointer (some ⟨w.heap.size,0,none⟩)/\Aj t w' w.heap.size v.cells.toList/\Ac w w'/\w'.heap.size=w.heap.size+1):=by
 intro a e Q K c;have e1:=e.eval k;have j:(execOp a.eval ⟨d,.box t x,ty,pos,af,g⟩).run P w=.ok (.value (.pointer (some ⟨w.heap.size,0,none⟩))) (w.alloc (.cells v.cells t (0,0))):=by generalize a.eval=ρ at e1;simp[execOp,Instr.box,e1,newVar,newRow,go_sem]
 unfold Oper.wp;rw[j,Oper.upon_value];exact c _ _ ⟨rfl,DN _ _ _,Da _ _,Dc _ _⟩
theorem oB {pos:String}{v:Value}  (c:ov E x=some v:=by exact rfl):
  Av P n ⟨d,.box t x,ty,pos,af,g⟩ E w (fun u w'=>u=.pointer (some ⟨w.heap.size,0,none⟩)/\Aj t w' w.heap.size v.cells.toList/\Ac w w'/\w'.heap.size=w.heap.size+1):=Av.box c
abbrev Gh (base:Nat) (e:TypeId) (w:World) (v:Value) (cs:List Value):Prop:=w.ownsRow base e 1 v cs.length cs
theorem Gh.row {v:Value}(h:Gh base e w v cs):Jk e w v cs:=by
 rcases h.2 with ⟨hv,j⟩ | ⟨g,cap,cur,hv,_,hg,hn,_,hs,ht⟩
 ·exact⟨none,0,by rw[hv,j],by omega,fun _=>rfl,fun a d=>by cases d⟩
 ·refine⟨_,cap,hv,hn,fun m=>(by cases m),fun a d i c k=>?_⟩;cases d;have l:=(Au.1 k).1;have:cur[i]?=some c:=by rw[<- k,<- ht];simp only[LB];rw[Dz l];simp
  have d:Addr.add ⟨g,0,none⟩ i=⟨g,i,none⟩:=by
   unfold Addr.add;split
   ·rename_i j;subst j;rfl
   ·simp
  rw[d];simp[World.cell?,hg,this]
theorem Gh.ext {v:Value}(h:Gh base e w v cs) (c:Ac w w'):Gh base e w' v cs:=by
 refine⟨h.1,?_⟩;rcases h.2 with h0 | ⟨g,cap,cur,hv,hb,hg,r⟩
 ·exact .inl h0
 ·exact .inr ⟨g,cap,cur,hv,hb,(c.block g (Gt.1 hg).1).trans hg,r⟩
theorem BZ {inf:TypeInfo}(c:P.info? t=some inf):(typeInfo t).run P w=.ok inf w:=by simp[typeInfo,c,go_sem]
theorem Av.make (c:Aw P T) {y:Operand}{pos:String}{k:IntKind}(m:Nat)
  (C:AG T t=some ⟨.slice et,s1,s2,z⟩) (l:AG T et=some ti) (B:ti.size=1) (H:ti.zero.cells=#[ti.zero]) (F:ov E x=some (.int k iv)) (f:iv=m) (G:ov E y=some (.int k' jv)) (h:jv=m) (M:m * ti.bytes<=1000000000000) (N:m<=1000000000000) :
  Av P n ⟨d,.makeSlice t x y,ty,pos,af,g⟩ E w (fun v w'=>v=.slice (some ⟨w.heap.size,0,none⟩) m m/\Aj et w' w.heap.size (List.replicate m ti.zero)/\Ac w w'/\w'.heap.size=w.heap.size+1):=by
 intro a e Q K q;subst f h;obtain⟨_,inf,j,O,r,I⟩:=c et ti l;have e1:=e.eval F;have e2:=e.eval G;have D:IntKind.i64.wrap (m:Int)=m:=Ab oo oo;have u:¬ ((decide (((m:Nat):Int)<0) || decide (((ti.bytes:Nat):Int) * ((m:Nat):Int) > 2 ^ 48) || decide (((m:Nat):Int)<0) || decide (((m:Nat):Int) > ((m:Nat):Int)))=true):=by
  have:((ti.bytes:Nat):Int) * ((m:Nat):Int)=((m * ti.bytes:Nat):Int):=by rw[HT];simp
  simp only[H9,decide_eq_true_eq,this];omega
 have s:¬ (m * ti.bytes > roomBytes):=by unfold roomBytes;omega
 have b:((Array.range (m * 1)).map (fun x=>(#[ti.zero]:Array Value)[x % 1]!))=(List.replicate m ti.zero).toArray:=by
  apply Array.ext
  ·simp
  ·intro i J L;simp[Nat.mod_one]
 have A:(execOp a.eval ⟨d,.makeSlice t x y,ty,pos,af,g⟩).run P w=.ok (.value (.slice (some ⟨w.heap.size,0,none⟩) m m)) (w.alloc (.cells (List.replicate m ti.zero).toArray et (0,0))):=by
  generalize a.eval=ρ at e1 e2;have p:(Instr.makeSlice t (.int k m) (.int k' m)).run P w=.ok (.slice (some ⟨w.heap.size,0,none⟩) m m) (w.alloc (.cells (List.replicate m ti.zero).toArray et (0,0))):=by
   unfold Instr.makeSlice;simp only[Bq,Ag c C,Bp,asInt,asIntOf,AX,BZ j,r,D];rw[if_neg u];simp only[Bq,AX,Bp,Cj,askRoom,if_neg s,AK c l,B];by_cases o:m=0
   ·subst o;simp[newRow,go_sem]
   ·rw[if_neg oo];simp only[Bq,zeroValue,BZ j,AX,Bp,I,H,Ty,BR,Fj,AE,b];simp[newRow,go_sem]
  simp only[execOp,e1,e2,Bq,p,Bp,AX]
 unfold Oper.wp;rw[A,Oper.upon_value];refine q _ _ ⟨rfl,?_,Da _ _,Dc _ _⟩;have:=DN w et (List.replicate m ti.zero).toArray;simpa using this
end
variable {n d1 d2:Nat}{w0:World}{ty2:TypeId}{af2:Array Edge}{g2:Option (Nat×Bool)}{E:List (Nat×Value)}{u:Value}{fn:Func}{α:Type}{args:Array Operand}{tys:Array TypeId}{pos2:String}
structure Oy (P:Program) (f:FuncId) (fn:Func):Prop where
 func:P.funcs[f]?=some fn
 name : (fn.name == "runtime.NumGoroutine") = false
 body:fn.body.isNone=false
def Z3 (E:List (Nat×Value)):List Operand->Option (List Value)
 | []=>some []
 | x::r=>match ov E x,Z3 E r with
  | some v,some vs=>some (v::vs)
  | _,_=>none
theorem LX {a:Act}(c:DM n E a):∀ (xs:List Operand) (vs:List Value),Z3 E xs=some vs->xs.map a.eval=vs:=by
 intro xs;induction xs with
 | nil=>intro vs h;simp only[Z3,AP]at h;subst h;rfl
 | cons x r ih =>
  intro vs h;simp only[Z3]at h;split at h
  ·rename_i v us hv d;simp only[AP]at h;subst h;simp only[Er,c.eval hv,ih us d]
  ·cases h
section
variable {P:Program}{T:List (Nat×TI)}{n:Nat}{E:List (Nat×Value)}{w:World}
theorem Av.call {f:FuncId}(c:Oy P f fn) {pos:String}
  (m:Z3 E args.toList=some vs) (o:Calls P f vs.toArray w (AJ Φ)) :
  Av P n ⟨d,.call ⟨.value (.func f),args,tys⟩,ty,pos,af,g⟩ E w Φ:=by
 intro a l Q K k;have r:=LX l _ _ m;have j:args.map a.eval=vs.toArray:=by rw[<- r];apply LD.1;simp
 have q:a.eval (.func f)=.func (.func f) #[] #[]:=rfl;have y:(execOp a.eval ⟨d,.call ⟨.value (.func f),args,tys⟩,ty,pos,af,g⟩).run P w=.ok (.enter f vs.toArray) w:=by
  simp only[execOp,resolve,q,Deferred.ofValue,j,Bq,AX,Bp,invoke,callFunc];simp only[Array.append_empty,Tz];have u:(program).run P w=.ok P w:=by simp[go_sem]
  simp only[u,Bp,c.func,c.name,c.body,Hg,if_false,AX]
 unfold Oper.wp;rw[y,Oper.upon_enter];refine o.mono ?_;rintro e w' ⟨v,rfl,hv⟩;exact k v w' hv
theorem oK {f:FuncId}{pos:String}(c:Oy P f fn) (j:Calls P f vs.toArray w (AJ Φ)) (e:Z3 E args.toList=some vs:=by exact rfl):
  Av P n ⟨d,.call ⟨.value (.func f),args,tys⟩,ty,pos,af,g⟩ E w Φ:=Av.call c e j
theorem Ak (b off l:Nat):Addr.add ⟨b,off,none⟩ l=⟨b,off+l,none⟩:=by
 unfold Addr.add;split
 ·rename_i c;subst c;rfl
 ·rfl
theorem A0.bp (c:Aw P T) {y:Operand}{pos:String}{p:Option Addr}{len:Nat}{k:IntKind}
  (m:AG T t=some ⟨.slice et,s1,s2,z⟩) (o:AG T et=some ti) (q:ov E x=some (.slice p len cap)) (r:ov E y=some (.int k iv)) (j:0<=iv) (l:iv<=cap) :
  A0 P n ⟨d,.slice t x none (some y) none,ty,pos,af,g⟩ E w (.slice p iv.toNat cap):=by intro a e;have e1:=e.eval q;have e2:=e.eval r;generalize a.eval=ρ at e1 e2;simp[execOp,Instr.sliceAt,Instr.slice,Instr.sliceBounds,Instr.sliceBound,e1,e2,Ag c m,AK c o,j,l,asIntOf,go_sem]
theorem A0.cA (e:Aw P T) {u y:Operand}{pos:String}{len:Nat}{k:IntKind}
  (v:AG T t=some ⟨.slice et,s1,s2,z⟩) (f:AG T et=some ti) (r:ti.size=1) (h:ov E x=some (.slice (some ⟨b,off,none⟩) len cap)) (hu:ov E u=some (.int k' jv)) (i:ov E y=some (.int k iv)) (l:0<=jv) (m:jv<=iv) (o:iv<=cap) (p:jv<cap) :
  A0 P n ⟨d,.slice t x (some u) (some y) none,ty,pos,af,g⟩ E w (.slice (some ⟨b,off+jv.toNat,none⟩) (iv.toNat - jv.toNat) (cap - jv.toNat)):=by
 intro a c;have e1:=c.eval h;have e2:=c.eval i;have e3:=c.eval hu;generalize a.eval=ρ at e1 e2 e3;have q:¬ cap=jv.toNat:=by omega
 have j:0<=iv:=by omega
 have s:jv<=((iv.toNat:Nat):Int):=by omega
 simp[execOp,Instr.sliceAt,Instr.slice,Instr.sliceBounds,Instr.sliceBound,e1,e2,e3,Ag e v,AK e f,r,l,o,j,asIntOf,q,Ak,Int.max_eq_left j,m,go_sem]
theorem Oz {v:Value}(j:P.underlying t=some (.slice e)) {inf:TypeInfo}(d:P.info? e=some inf) (l:Gh base e w v cs) (m c:Nat) (k:m=0) :
  (Builtin.append_ #[t,t] ty #[v,.slice none m c]).run P w=.ok v w:=by
 subst k;rcases l.2 with ⟨hv,h0⟩ | ⟨g,cap,cur,hv,_,hg,hn,_,hs,ht2⟩
 ·rw[hv];simp[Builtin.append_,run_underlying j,sizeOf,typeInfo,d,Builtin.lenOf,Builtin.firstCells,go_sem]
 ·rw[hv];simp[Builtin.append_,run_underlying j,sizeOf,typeInfo,d,Builtin.lenOf,Builtin.firstCells,hn,storeCells,go_sem]
theorem XA (w:World) (r:Option Nat):w.grownBy w r:=⟨rfl,rfl,rfl,Ai _,fun _ _ _=>rfl⟩
theorem Ac.grown {v:Value}(h:Ac w0 w) (j:Gh base e w v cs) (l:w0.heap.size<=base) (c:w.grownBy w' v.ownBlock):Ac w0 w':=by refine⟨c.os.trans h.os,c.tape.trans h.tape,c.output.trans h.output,Ar h.size c.size,fun k d=>?_⟩;refine (c.block k (CW d h.size) ?_).trans (h.block k d);intro g;have:=(j.lt k g.symm).1;omega
theorem Av.append (q:Aw P T) {s:Operand}{pos:String}{v:Value}{ds:List Value}
  (M:AG T t=some ⟨.slice et,s1,s2,z⟩) (N:AG T et=some ti) (L:ti.size=1) (R:ti.zero.cells.size=1) (I:ov E s=some v) (O:ov E x=some u) (o:Gh base et w v cs) (G:Jk et w u ds) (h:∀ c ∈ ds,c.oneCell'=true)
  (X:cs.length+ds.length<=1000000000000) (U:(cs.length+ds.length) * ti.bytes<=1000000000000) (A:base<=w.heap.size) :
  Av P n ⟨d,.call ⟨.builtin .append,#[s,x],#[t,t]⟩,ty,pos,af,g⟩ E w (fun v' w'=>Gh base et w' v' (cs++ds)/\w.grownBy w' v.ownBlock/\(v'=.slice none 0 0↔v=.slice none 0 0/\ds=[])):=by
 intro a r Q K i;obtain⟨b,_⟩:=q t _ M;obtain⟨_,inf,y,J,B,S⟩:=q et ti N;have e1:=r.eval I;have e2:=r.eval O;have key:∃ v' w',(Builtin.append_ #[t,t] ty #[v,u]).run P w=.ok v' w'/\Gh base et w' v' (cs++ds)/\w.grownBy w' v.ownBlock/\(v'=.slice none 0 0↔v=.slice none 0 0/\ds=[]):=by
  obtain⟨p,cap,hu,W,F,C⟩:=G;cases p with
  | none =>
   have V:=F rfl;have f:ds=[]:=FA oo;subst f hu;refine⟨v,w,Oz b y o _ _ rfl,by simpa using o,XA _ _,by simp⟩
  | some ad =>
   subst hu;obtain⟨v',w',e,k,l,m⟩:=run_append_own (P:=P) w base t ty et inf ti.zero 1 ti.bytes b y S (J.trans L) B R de v cs.length cs o ad ds.length cap ds sm
    (fun j c D=>C ad rfl j c D) h (by unfold maxLen;omega) oo A
   refine⟨v',w',e,by unfold Gh;rw[Bf];exact k,l,?_⟩;rw[m];simp
 obtain⟨v',w',e,k,l,m⟩:=key;have H:(execOp a.eval ⟨d,.call ⟨.builtin .append,#[s,x],#[t,t]⟩,ty,pos,af,g⟩).run P w=.ok (.value v') w':=by generalize a.eval=ρ at e1 e2;simp only[execOp,resolve,invoke,builtin,Bq,AX,Bp,Js,Er,J4,e1,e2,e]
 unfold Oper.wp;rw[H,Oper.upon_value];exact i v' w' ⟨k,l,m⟩
theorem Av.single (c:Aw P T) {pos:String}{k:IntKind}{m:Int}
  (v:AG T t=some ⟨.slice et,s1,s2,z⟩) (e:AG T et=some ti) (r:ti.size=1) (y:ov E x=some (.int k m)) :
  Av P n ⟨d,.buildSlice t 1 #[(0,x)],ty,pos,af,g⟩ E w (fun u w'=>u=.slice (some ⟨w.heap.size,0,none⟩) 1 1/\Aj et w' w.heap.size [.int k m]/\Ac w w'/\w'.heap.size=w.heap.size+1):=by
 intro a l Q K j;obtain⟨_,inf,o,h,f,b⟩:=c et ti e;have e1:=l.eval y;have q:(execOp a.eval ⟨d,.buildSlice t 1 #[(0,x)],ty,pos,af,g⟩).run P w=.ok (.value (.slice (some ⟨w.heap.size,0,none⟩) 1 1)) (w.alloc (.cells #[.int k m] et (0,0))):=by generalize a.eval=ρ at e1;simp[execOp,Instr.buildSlice,e1,Ag c v,AK c e,r,zeroValue,BZ o,b,Instr.fill,newRow,go_sem]
 unfold Oper.wp;rw[q,Oper.upon_value];exact j _ _ ⟨rfl,DN _ _ _,Da _ _,Dc _ _⟩
end
theorem Aj.row {w:World}{len:Nat}(h:Aj e w b C) (m:len=cs.length) (l:len<=cap) (q:off+cap<=C.length) (j:(C.drop off).take len=cs):Jk e w (.slice (some ⟨b,off,none⟩) len cap) cs:=by
 subst m;refine⟨_,cap,rfl,l,fun o=>(by cases o),fun a g i c d=>?_⟩;cases g;have k:=(Au.1 d).1;rw[Ak];refine h.cell ?_;have:cs[i]?=((C.drop off).take cs.length)[i]?:=by rw[j]
 rw[<- d,this,Dz k];simp
theorem Aj.own {w:World}{len:Nat}(h:Aj e w b C) (d:len=C.length) (c:base<=b) (g:len<=1000000000000):Gh base e w (.slice (some ⟨b,0,none⟩) len len) C:=by subst d;exact⟨by simp,.inr ⟨b,C.length,C.toArray,rfl,c,h,Ai _,by unfold maxLen;omega,by simp,by simp⟩⟩
theorem Gh.nil (base:Nat) (e:TypeId) (w:World):Gh base e w (.slice none 0 0) []:=World.ownsRow_nil w base e 1
section lists
variable {P:Program}{T:List (Nat×TI)}{n:Nat}{E:List (Nat×Value)}{w:World}{Q:Exit->Act->World->Prop}{ops:Array Oper}{rest:List Oper}
theorem Af.elem (d:Aw P T) {u:TypeId}{i:Operand}{pos:String}{sv:Value}{k:IntKind}(j:Nat) (c:Value)
  (s:Jk et w sv cs) (e:cs[j]?=some c) (D:iv=j)
  (C:AG T t=some ⟨.slice et,s1,s2,z⟩) (l:AG T et=some ti) (B:ti.size=1) (o:DJ ti.desc=false) (hu:u=et)
  (m:ov E x=some sv) (y:ov E i=some (.int k iv)) (r:Bg ops E g=some true) (f:Nat.blt d1 n=true) (h:Nat.blt d2 n=true) (v:∀ p,Bg ops ((d1,p)::E) g2=some true)
  (next:∀ p,Af P n ((d2,c)::(d1,p)::E) w ops rest Q) :
  Af P n E w ops (⟨some d1,.indexAddr t x i,ty,pos,af,g⟩::⟨some d2,.load u (.tmp d1),ty2,pos2,af2,g2⟩::rest) Q:=by obtain⟨a,cap,A,q⟩:=s.get e;have F:j<cs.length:=(Au.1 e).1;subst hu;rw[A]at m;refine Af.step rfl r f (A0.indexAddr d C l B m y oo oo).op ?_;rintro p w' ⟨rfl,rfl⟩;rw[show iv.toNat=j from by omega];have b:ov ((d1,.pointer (some (a.add j)))::E) (.tmp d1)=some (.pointer (some (a.add j))):=AF _ _ _;refine Af.step rfl (v _) h (A0.load d l o b q).op ?_;rintro c' w' ⟨rfl,rfl⟩;exact next _
theorem Af.put (c:Aw P T) {u:TypeId}{i y:Operand}{pos:String}{len:Nat}{k:IntKind}{v:Value}(j:Nat)
  (o:Aj et w b C) (G:iv=j) (H:j<len) (F:off+len<=C.length)
  (s:AG T t=some ⟨.slice et,s1,s2,z⟩) (e:AG T et=some ti) (d:ti.size=1) (hu:u=et)
  (B:ov E x=some (.slice (some ⟨b,off,none⟩) len cap)) (a:ov E i=some (.int k iv)) (q:Bg ops E g=some true) (h:Nat.blt d1 n=true) (r:∀ p,Bg ops ((d1,p)::E) g2=some true)
  (D:∀ p,ov ((d1,p)::E) y=some v) (hv:v.cells=#[v]) (A:v.oneCell'=true)
  (next:∀ p w',Aj et w' b (C.set (off+j) v)->CE b w w'->Af P n ((d1,p)::E) w' ops rest Q) :
  Af P n E w ops (⟨some d1,.indexAddr t x i,ty,pos,af,g⟩::⟨none,.store u (.tmp d1) y,ty2,pos2,af2,g2⟩::rest) Q:=by subst hu;refine Af.step rfl q h (A0.indexAddr c s e d B a oo oo).op ?_;rintro p w' ⟨rfl,rfl⟩;rw[show iv.toNat=j from by omega,Ak];have f:ov ((d1,.pointer (some ⟨b,off+j,none⟩))::E) (.tmp d1)=some (.pointer (some ⟨b,off+j,none⟩)):=AF _ _ _;refine Af.step0 rfl (r _) (Av.store c (vs:=[v]) e f (D _) (by rw[hv]) (by simp[d]) o (by simp;omega) (by simpa using A)) ?_;rintro _ w' ⟨l,m⟩;exact next _ w' l m
end lists
section cut
variable {P:Program}{n:Nat}{E:List (Nat×Value)}{w:World}{Q:Exit->Act->World->Prop}
def Met {α:Type}(n:Nat) (Em:α->List (Nat×Value)) (I:α->World->Prop) (a:Act) (w:World):Prop:=∃ g,DM n (Em g) a/\I g w
theorem St.cut (d:α->List (Nat×Value)) (I:α->World->Prop) {x y:Code}(o:St P n E w x (Exit.then (Met n d I) Q)) (q:∀ g w,I g w->St P n (d g) w y Q):St P n E w (.seq x y) Q:=by
 intro a k;refine wp_seq (wp_mono (o a k) ?_);intro e a2 w2 c;cases e with
 | normal =>
  obtain⟨g,m,j⟩:=c;exact q g w2 j a2 m
 | exit id=>exact c
 | goto l=>exact c
 | ret=>exact c
 | panic ch=>exact c
 | outgrown=>exact c
theorem Ad.met {Em:α->List (Nat×Value)}{I:α->World->Prop}(g:α) (e:Xy (Em g) E) (c:I g w):Ad n E w .normal (Exit.then (Met n Em I) Q):=fun _ d=>⟨g,d.sub e,c⟩
end cut
variable {P:Program}{Q:Exit->Act->World->Prop}{l:List Oper}{ops:Array Oper}{T:List (Nat×TI)}
def TB:List (Nat×TI) :=
 [(109,⟨.int .u32,1,4,.int .u32 0⟩),
  (35,⟨.slice 109,1,24,.slice none 0 0⟩),
  (3,⟨.int .i64,1,8,.int .i64 0⟩),
  (77,⟨.int .u64,1,8,.int .u64 0⟩),
  (4,⟨.bool,1,1,.bool false⟩),
  (37, ⟨.struct #[{ name := "Neg", type := 4, offset := 0, embedded := false, tag := "", pkgPath := "", byteOffset := 0 }, { name := "Mag", type := 35, offset := 1, embedded := false, tag := "", pkgPath := "", byteOffset := 8 }], 2, 32, .agg #[.bool false, .slice none 0 0]⟩),
  (2,⟨.int .i64,1,8,.int .i64 0⟩),
  (9,⟨.string,1,16,.string ByteArray.empty⟩),
  (5,⟨.int .u8,1,1,.int .u8 0⟩),
  (113,⟨.slice 5,1,24,.slice none 0 0⟩),
  (21,⟨.int .i32,1,4,.int .i32 0⟩),
  (39, ⟨.struct #[{ name := "Num", type := 37, offset := 0, embedded := false, tag := "", pkgPath := "", byteOffset := 0 }, { name := "Den", type := 37, offset := 2, embedded := false, tag := "", pkgPath := "", byteOffset := 32 }], 4, 64, .agg #[.bool false, .slice none 0 0, .bool false, .slice none 0 0]⟩),
  (71, ⟨.struct #[{ name := "Num", type := 37, offset := 0, embedded := false, tag := "", pkgPath := "", byteOffset := 0 }, { name := "Den", type := 37, offset := 2, embedded := false, tag := "", pkgPath := "", byteOffset := 32 }], 4, 64, .agg #[.bool false, .slice none 0 0, .bool false, .slice none 0 0]⟩),
  (29,⟨.slice 39,1,24,.slice none 0 0⟩),
  (117,⟨.slice 3,1,24,.slice none 0 0⟩),
  (33,⟨.slice 2,1,24,.slice none 0 0⟩),
  (25,⟨.slice 33,1,24,.slice none 0 0⟩),
  (122,⟨.slice 37,1,24,.slice none 0 0⟩),
  (94,⟨.slice 122,1,24,.slice none 0 0⟩),
  (121,⟨.slice 94,1,24,.slice none 0 0⟩),
  (228,⟨.int .i8,1,1,.int .i8 0⟩),
  (55,⟨.slice 228,1,24,.slice none 0 0⟩),
  (57, ⟨.struct #[{ name := "Dim", type := 5, offset := 0, embedded := false, tag := "", pkgPath := "", byteOffset := 0 }, { name := "Kind", type := 5, offset := 1, embedded := false, tag := "", pkgPath := "", byteOffset := 1 }, { name := "Numbers", type := 55, offset := 2, embedded := false, tag := "", pkgPath := "", byteOffset := 8 }, { name := "Base", type := 55, offset := 3, embedded := false, tag := "", pkgPath := "", byteOffset := 32 }], 4, 56, .agg #[.int .u8 0, .int .u8 0, .slice none 0 0, .slice none 0 0]⟩),
  (147, ⟨.struct #[{ name := "L", type := 55, offset := 0, embedded := false, tag := "", pkgPath := "", byteOffset := 0 }, { name := "At", type := 3, offset := 1, embedded := false, tag := "", pkgPath := "", byteOffset := 24 }], 2, 32, .agg #[.slice none 0 0, .int .i64 0]⟩),
  (124, ⟨.struct #[{ name := "N", type := 3, offset := 0, embedded := false, tag := "", pkgPath := "", byteOffset := 0 }, { name := "B", type := 121, offset := 1, embedded := false, tag := "", pkgPath := "", byteOffset := 8 }, { name := "D", type := 122, offset := 2, embedded := false, tag := "", pkgPath := "", byteOffset := 32 }], 3, 56, .agg #[.int .i64 0, .slice none 0 0, .slice none 0 0]⟩),
  (220, ⟨.struct #[{ name := "stages", type := 121, offset := 0, embedded := false, tag := "", pkgPath := "quadform/schur", byteOffset := 0 }, { name := "minors", type := 122, offset := 1, embedded := false, tag := "", pkgPath := "quadform/schur", byteOffset := 24 }], 2, 48, .agg #[.slice none 0 0, .slice none 0 0]⟩),
  (218, ⟨.struct #[{ name := "bound", type := 2, offset := 0, embedded := false, tag := "", pkgPath := "quadform/schur", byteOffset := 0 }, { name := "minor", type := 33, offset := 1, embedded := false, tag := "", pkgPath := "quadform/schur", byteOffset := 8 }, { name := "lambda", type := 25, offset := 2, embedded := false, tag := "", pkgPath := "quadform/schur", byteOffset := 32 }, { name := "x", type := 33, offset := 3, embedded := false, tag := "", pkgPath := "quadform/schur", byteOffset := 56 }], 4, 80, .agg #[.int .i64 0, .slice none 0 0, .slice none 0 0, .slice none 0 0]⟩),
  (26,⟨.int .i64,1,8,.int .i64 0⟩),
  (133, ⟨.struct #[{ name := "Lo", type := 2, offset := 0, embedded := false, tag := "", pkgPath := "", byteOffset := 0 }, { name := "Hi", type := 2, offset := 1, embedded := false, tag := "", pkgPath := "", byteOffset := 8 }], 2, 16, .agg #[.int .i64 0, .int .i64 0]⟩),
  (89,⟨.slice 133,1,24,.slice none 0 0⟩),
  (128, ⟨.struct #[{ name := "Norm", type := 2, offset := 0, embedded := false, tag := "", pkgPath := "", byteOffset := 0 }, { name := "X", type := 33, offset := 1, embedded := false, tag := "", pkgPath := "", byteOffset := 8 }], 2, 32, .agg #[.int .i64 0, .slice none 0 0]⟩),
  (120,⟨.slice 128,1,24,.slice none 0 0⟩),
  (200,⟨.slice 25,1,24,.slice none 0 0⟩),
  (157,⟨.slice 200,1,24,.slice none 0 0⟩),
  (202, ⟨.struct #[{ name := "a", type := 25, offset := 0, embedded := false, tag := "", pkgPath := "quadform/quadformref18", byteOffset := 0 }, { name := "b", type := 25, offset := 1, embedded := false, tag := "", pkgPath := "quadform/quadformref18", byteOffset := 24 }, { name := "pool", type := 120, offset := 2, embedded := false, tag := "", pkgPath := "quadform/quadformref18", byteOffset := 48 }, { name := "image", type := 94, offset := 3, embedded := false, tag := "", pkgPath := "quadform/quadformref18", byteOffset := 72 }], 4, 96, .agg #[.slice none 0 0, .slice none 0 0, .slice none 0 0, .slice none 0 0]⟩),
  (178, ⟨.struct #[{ name := "minor", type := 33, offset := 0, embedded := false, tag := "", pkgPath := "quadform/tree", byteOffset := 0 }, { name := "lambda", type := 25, offset := 1, embedded := false, tag := "", pkgPath := "quadform/tree", byteOffset := 24 }], 2, 48, .agg #[.slice none 0 0, .slice none 0 0]⟩),
  (62, ⟨.struct #[{ name := "Form", type := 25, offset := 0, embedded := false, tag := "", pkgPath := "", byteOffset := 0 }, { name := "Order", type := 37, offset := 1, embedded := false, tag := "", pkgPath := "", byteOffset := 24 }], 3, 56, .agg #[.slice none 0 0, .bool false, .slice none 0 0]⟩),
  (23,⟨.slice 62,1,24,.slice none 0 0⟩),
  (22,⟨.slice 57,1,24,.slice none 0 0⟩)]
theorem A8:Aw prog TB:=by unfold TB;refine Aw.cons underlying109 kr ?_;refine Aw.cons underlying35 kr ?_;refine Aw.cons underlying3 kr ?_;refine Aw.cons underlying77 kr ?_;refine Aw.cons underlying4 kr ?_;refine Aw.cons underlying37 kr ?_;refine Aw.cons underlying2 kr ?_;refine Aw.cons underlying9 kr ?_;refine Aw.cons underlying5 kr ?_;refine Aw.cons underlying113 kr ?_;refine Aw.cons underlying21 kr ?_;refine Aw.cons underlying39 kr ?_;refine Aw.cons underlying71 kr ?_;refine Aw.cons underlying29 kr ?_;refine Aw.cons underlying117 kr ?_;refine Aw.cons underlying33 kr ?_;refine Aw.cons underlying25 kr ?_;refine Aw.cons underlying122 kr ?_;refine Aw.cons underlying94 kr ?_;refine Aw.cons underlying121 kr ?_;refine Aw.cons underlying228 kr ?_;refine Aw.cons underlying55 kr ?_;refine Aw.cons underlying57 kr ?_;refine Aw.cons underlying147 kr ?_;refine Aw.cons underlying124 kr ?_;refine Aw.cons underlying220 kr ?_;refine Aw.cons underlying218 kr ?_;refine Aw.cons underlying26 kr ?_;refine Aw.cons underlying133 kr ?_;refine Aw.cons underlying89 kr ?_;refine Aw.cons underlying128 kr ?_;refine Aw.cons underlying120 kr ?_;refine Aw.cons underlying200 kr ?_;refine Aw.cons underlying157 kr ?_;refine Aw.cons underlying202 kr ?_;refine Aw.cons underlying178 kr ?_;refine Aw.cons underlying62 kr ?_;refine Aw.cons underlying23 kr ?_;refine Aw.cons underlying22 kr ?_;exact Aw.nil _
theorem Af.a {w:World}(m:Nat) {E':List (Nat×Value)}{l':List Oper}{d:Nat}{v:Value}(v':Value) (h:AZ TB n ops m E l=((d,v)::E',l')) (hv:v=v') (c:Af prog n ((d,v')::E') w ops l' Q):Af prog n E w ops l Q:=Af.as A8 m v' h hv c
theorem A0.ia {w:World}{i:Operand}{pos:String}{a:Addr}{len:Nat}{k:IntKind}
  (m:AG TB t=some ⟨.slice et,s1,s2,z⟩:=by exact rfl) (o:AG TB et=some et1:=by exact rfl) (l:et1.size=1:=by exact rfl) (q:ov E x=some (.slice (some a) len cap):=by exact rfl) (j:ov E i=some (.int k iv):=by exact rfl) (c:0<=iv:=by omega) (e:iv<len:=by omega) :
  A0 prog n ⟨d,.indexAddr t x i,ty,pos,af,g⟩ E w (.pointer (some (a.add iv.toNat))):=A0.indexAddr A8 m o l q j c e
section
theorem rL {w:World}{pos:String}{a:Addr}{v:Value}(j:w.cell? a=some v) (c:Aw P T:=by exact A8) (k:AG T t=some ti:=by exact rfl) (e:DJ ti.desc=false:=by exact rfl) (l:ov E x=some (.pointer (some a)):=by exact rfl):
  A0 P n ⟨d,.load t x,ty,pos,af,g⟩ E w v:=A0.load c k e l j
theorem oA {w:World}{pos:String}  (c:Aw P T:=by exact A8) (e:AG T t=some ti:=by exact rfl):
  Av P n ⟨d,.alloc t,ty,pos,af,g⟩ E w (fun v w'=>v=.pointer (some ⟨w.heap.size,0,none⟩)/\Aj t w' w.heap.size ti.zero.cells.toList/\Ac w w'/\w'.heap.size=w.heap.size+1):=Av.alloc c e
theorem FW{w:World}{pos:String}{v:Value}(k:AG TB t=some ti:=by exact rfl) (c:DJ ti.desc=false:=by exact rfl) (l:ov E x=some (.pointer (some ⟨b,i,none⟩)):=by exact rfl) (hB:Aj e w b C:=by exact EC) (j:C[i]?=some v:=by exact rfl):A0 prog n ⟨d,.load t x,ty,pos,af,g⟩ E w v:=A0.load A8 k c l (hB.cell j)
theorem FX{w:World}{pos:String}{v:Value}(hB:Aj e w b C) (k:AG TB t=some ti:=by exact rfl) (c:DJ ti.desc=false:=by exact rfl) (l:ov E x=some (.pointer (some ⟨b,i,none⟩)):=by exact rfl) (j:C[i]?=some v:=by exact rfl):A0 prog n ⟨d,.load t x,ty,pos,af,g⟩ E w v:=A0.load A8 k c l (hB.cell j)
end
end Go.Qf
namespace Go.Qf
def Ah:List Nat->Nat
 | []=>0
 | x::r=>x+4294967296 * Ah r
def MQ:Nat->Nat->List Nat
 | 0,_=>[]
 | f+1,m=>if m=0 then [] else m % 4294967296::MQ f (m / 4294967296)
def Ae (m:Nat):List Nat:=MQ m m
theorem Wc:∀ (f g m:Nat),m<=f->m<=g->MQ f m=MQ g m:=by
 intro f;induction f with
 | zero =>
      intro g m h _;have:m=0:=by omega
      subst this;cases g <;> simp[MQ]
 | succ f ih =>
  intro g m c d;cases g with
  | zero =>
       have:m=0:=by omega
       subst this;simp[MQ]
  | succ g =>
   simp only[MQ];split
   ·rfl
   ·rw[ih g (m / 4294967296) oo oo]
theorem ER:Ae 0=[]:=rfl
theorem IM (m:Nat) (h:m≠0):Ae m=m % 4294967296::Ae (m / 4294967296):=by
 unfold Ae;cases m with
 | zero=>exact absurd rfl h
 | succ k =>
  simp only[MQ,if_neg h];rw[Wc k ((k+1) / 4294967296) ((k+1) / 4294967296) oo oo]
def EB (xs:List Nat):Prop:=∀ x ∈ xs,x<4294967296
theorem EB.nil:EB []:=fun _ h=>by cases h
theorem EB.cons {x:Nat}{r:List Nat}:EB (x::r)↔x<4294967296/\EB r:=by simp[EB]
theorem EB.get {xs:List Nat}(h:EB xs) {i x:Nat}(c:xs[i]?=some x):x<4294967296:=h x (Bi c)
theorem EB.take {xs:List Nat}(h:EB xs) (k:Nat):EB (xs.take k):=fun x c=>h x (HU c)
theorem EB.drop {xs:List Nat}(h:EB xs) (k:Nat):EB (xs.drop k):=fun x c=>h x (NN c)
theorem EB.append {xs ys:List Nat}(h:EB xs) (k:EB ys):EB (xs++ys):=fun x c=>by
 rcases FB.1 c with h1 | h1
 ·exact h x h1
 ·exact k x h1
theorem EB.set {xs:List Nat}(h:EB xs) (i:Nat) {y:Nat}(d:y<4294967296):EB (xs.set i y):=fun x c=>by
 rcases LF c with h1 | h1
 ·exact h x h1
 ·rw[h1];exact d
theorem Al:∀ m,Ah (Ae m)=m:=by
 intro m;induction m using Nat.strongRecOn with
 | _ m ih =>
  by_cases h:m=0
  ·subst h;rfl
  ·rw[IM m h];simp only[Ah];rw[ih (m / 4294967296) oo];omega
theorem KQ:∀ m,EB (Ae m):=by
 intro m;induction m using Nat.strongRecOn with
 | _ m ih =>
  by_cases h:m=0
  ·subst h;exact EB.nil
  ·rw[IM m h];exact EB.cons.2 ⟨by omega,ih (m / 4294967296) oo⟩
theorem CQ {m:Nat}:Ae m=[]↔m=0:=by
 constructor
 ·intro h;have:=Al m;rw[h]at this;exact this.symm
 ·intro h;subst h;rfl
theorem FI (xs ys:List Nat):Ah (xs++ys)=Ah xs+4294967296 ^ xs.length * Ah ys:=by
 induction xs with
 | nil=>simp[Ah]
 | cons x r ih =>
  simp only[Hh,Ah,ih,BR,Ck,Dk];rw[HS];congr 2;rw[<- Bb,AQ (4294967296 ^ r.length)]
theorem CR (k:Nat):Ah (List.replicate k 0)=0:=by
 induction k with
 | zero=>rfl
 | succ k ih=>simp[List.replicate_succ,Ah,ih]
theorem Fm (xs:List Nat) (h:EB xs):Ah xs<4294967296 ^ xs.length:=by
 induction xs with
 | nil=>simp[Ah]
 | cons x r ih =>
  obtain⟨d,c⟩:=EB.cons.1 h;have:=ih c;simp only[Ah,BR,Ck];have e:4294967296 * (Ah r+1)<=4294967296 * 4294967296 ^ r.length:=HV _ this;rw[AQ (4294967296 ^ r.length)];omega
theorem Ur (xs:List Nat) (x:Nat) (h:EB (xs++[x])) (g:x≠0):Ae (Ah (xs++[x]))=xs++[x]:=by
 induction xs with
 | nil =>
  have c:x<4294967296:=h x sm;have hv:Ah ([]++[x])=x:=by simp[Ah]
  rw[hv,IM x g];have d:x / 4294967296=0:=J5 c;rw[d,ER,Hj c];rfl
 | cons y r ih =>
  obtain⟨c,d⟩:=EB.cons.1 h;have:=ih d;have j:Ah (r++[x])≠0:=by intro e;rw[e,ER]at this;simp at this
  simp only[Hh,Ah];rw[IM _ oo];have e1:(y+4294967296 * Ah (r++[x])) % 4294967296=y:=by omega
  have e2:(y+4294967296 * Ah (r++[x])) / 4294967296=Ah (r++[x]):=by omega
  rw[e1,e2,this]
theorem Ap (xs:List Nat) (h:EB xs):(Ae (Ah xs)).length<=xs.length:=by
 induction xs with
 | nil=>simp[Ah,ER]
 | cons x r ih =>
  obtain⟨e,d⟩:=EB.cons.1 h;have:=ih d;by_cases c:Ah (x::r)=0
  ·rw[c];simp[ER]
  ·rw[IM _ c];have e2:Ah (x::r) / 4294967296=Ah r:=by simp only[Ah];omega
   rw[e2];simp;omega
theorem HZ (xs:List Nat) (h:EB xs) (k:Nat) (d:∀ j,k<=j->j<xs.length->xs[j]?=some 0) (r:k<=xs.length) (m:k=0\/∃ x,xs[k - 1]?=some x/\x≠0):Ae (Ah xs)=xs.take k:=by
 have o:xs=xs.take k++List.replicate (xs.length - k) 0:=by
  apply Fk;intro i;by_cases g:i<k
  ·rw[BM (by simp;omega),Dz g]
  ·rw[Es (by simp;omega)];have e:(xs.take k).length=k:=by simp;omega
   rw[e];by_cases l:i<xs.length
   ·rw[d i oo l,TA,if_pos oo]
   ·rw[BJ oo,TA,if_neg oo]
 have hv:Ah xs=Ah (xs.take k):=by
  conv=>lhs;rw[o]
  rw[FI,CR];simp
 rw[hv];rcases m with h0 | ⟨x,hx,hne⟩
 ·subst h0;simp[Ah,ER]
 ·have u:0<k:=by
   rcases Gu k with h0 | h0
   ·subst h0;simp at hx;have q:=d 0 oo (by
     cases xs with
     | nil=>simp at hx
     | cons a b=>simp)
    rw[q]at hx;cases hx;exact absurd rfl hne
   ·exact h0
  have e:xs.take k=xs.take (k - 1)++[x]:=by
   have c:k - 1<xs.length:=by omega
   have:k=(k - 1)+1:=by omega
   conv=>lhs;rw[this]
   rw[DA c];congr 2;have:=DH c;rw[this]at hx;cases hx;rfl
  rw[e];exact Ur _ _ (by rw[<- e];exact h.take k) hne
end Go.Qf
namespace Go.Qf
open Go Go.RowKit Go.Proofs Go.Proofs.Tryz
variable {w':World}{i:Nat}{e:TypeId}{xs:List Nat}{cs:List Value}
abbrev Dr (x:Nat):Value:=.int .u32 x
def Sl (w:World) (v:Value) (xs:List Nat):Prop:=Jk 109 w v (xs.map Dr)/\EB xs
def Qa:Value->Nat->Value
 | .slice p _ cap,k=>.slice p k cap
 | v,_=>v
theorem Sl.ext {w:World}{v:Value}(h:Sl w v xs) (c:Ac w w'):Sl w' v xs:=⟨h.1.ext c,h.2⟩
theorem Sl.drewN {w:World}{v:Value}(h:Sl w v xs) (m:Nat):Sl (w.drewN m) v xs:=h
theorem Sl.form {w:World}{v:Value}(h:Sl w v xs):∃ p cap,v=.slice p xs.length cap/\xs.length<=cap:=by obtain⟨p,cap,hv,c,_⟩:=h.1;exact⟨p,cap,by simpa using hv,by simpa using c⟩
theorem Sl.get {w:World}{v:Value}{x:Nat}(_h:Sl w v xs) (c:xs[i]?=some x):(xs.map Dr)[i]?=some (Dr x):=by simp[c]
theorem Jk.cut {w:World}{v:Value}(h:Jk e w v cs) (k:Nat) (o:k<=cs.length):Jk e w (Qa v k) (cs.take k):=by
 obtain⟨p,cap,hv,q,j,m⟩:=h;subst hv;have e1:(cs.take k).length=k:=by simp;omega
 refine⟨p,cap,by simp only[Qa,e1],by omega,j,fun a l i c d=>m a l i c ?_⟩;have g:=(Au.1 d).1;rw[e1]at g;rw[<- d,Dz g]
theorem Sl.cut {w:World}{v:Value}(h:Sl w v xs) (k:Nat) (c:k<=xs.length):Sl w (Qa v k) (xs.take k):=by refine⟨?_,h.2.take k⟩;have:=h.1.cut k (by simpa using c);rwa [<- PU]at this
theorem BN (w:World) (v:Value) (xs:List Nat) (h:Sl w v xs) (b:xs.length<=1000000000) :
  Calls prog 69 #[v] w (AJ fun r w'=>w'=w/\r=Qa v (Ae (Ah xs)).length/\Sl w r (Ae (Ah xs))):=by
 obtain⟨p,cap,rfl,t⟩:=h.form;refine cS func69 ntmps69 ?_;refine St.seq (St.region (Af.run A8 99 rfl (Af.nil (Ad.ak ?_))));refine St.seq (St.block ?_);refine St.loop (fun k:Nat=>[(0,.slice p k cap)]) (fun k w'=>w'=w/\k<=xs.length/\∀ j,k<=j->j<xs.length->xs[j]?=some 0) (fun k=>k) xs.length ⟨rfl,trivial⟩ ⟨rfl,Ai _,fun j u o=>by omega⟩ ?_;rintro k w' ⟨rfl,c,l⟩;refine St.seq (St.seq (St.region ?_));by_cases q:k=0
 ·subst q;refine .a 3 (.bool false) rfl (A9 oo) ?_;refine Af.run A8 99 rfl (Af.nil (Ad.ak ?_));refine St.ay rfl rfl (St.exit (Ad.aR (Ad.aR (Ad.aV (Ad.ak ?_)))));refine St.seq (St.region (Af.run A8 99 rfl (Af.nil (Ad.ak (St.ret ?_)))));have e:Ae (Ah xs)=xs.take 0:=HZ xs h.2 0 l c (.inl rfl);refine Ad.ax rfl rfl ⟨rfl,?_,?_⟩
  ·rw[e];rfl
  ·rw[e];exact h.cut 0 c
 ·obtain⟨m,rfl⟩:∃ m,k=m+1:=⟨k - 1,by omega⟩;have g:xs[m]?=some xs[m]:=by simp
  generalize xs[m]=x at g;refine .a 3 (.bool true) rfl (Aa oo) ?_;refine Af.run A8 99 rfl ?_;refine Af.elem A8 m (Dr x) (Jk.cut h.1 (m+1) (by simpa using c)) (by rw[Dz oo];exact h.get g) (by rw[Ab oo oo];omega) rfl rfl rfl rfl rfl rfl rfl rfl rfl rfl (fun _=>rfl) ?_;intro p1;refine Af.run A8 99 rfl (Af.nil (Ad.ak ?_));refine St.cond rfl (fun d=>?_) (fun d=>?_)
  ·refine St.skip (Ad.ak (St.block (St.region ?_)));refine Af.run A8 99 rfl ?_;have e1:IntKind.i64.wrap ((((m+1:Nat):Nat):Int) - 1)=m:=by rw[Ab oo oo];omega
   refine .p (A0.bp A8 rfl rfl rfl rfl (by rw[e1];omega) (by rw[e1];omega)) ?_;rw[e1];refine Af.run A8 99 rfl (Af.nil (Ad.aL (Ad.again m ⟨rfl,trivial⟩ ⟨rfl,by omega,fun j u o=>?_⟩ (LG m))));by_cases y:j=m
   ·subst y;rw[g];simp at d;rw[d]
   ·exact l j oo o
  ·refine St.exit (Ad.aR (Ad.aR (Ad.aV (Ad.ak ?_))));refine St.seq (St.region (Af.run A8 99 rfl (Af.nil (Ad.ak (St.ret ?_)))));have z:x≠0:=by intro e;subst e;simp at d
   have e:Ae (Ah xs)=xs.take (m+1):=HZ xs h.2 (m+1) l c (.inr ⟨x,by simpa using g,z⟩);refine Ad.ax rfl rfl ⟨rfl,?_,?_⟩
   ·rw[e];simp[Qa];omega
   ·rw[e];exact h.cut (m+1) c
end Go.Qf
namespace Go.Qf
theorem AA:∀ (a b:Nat),a<=b->(Ae a).length<=(Ae b).length:=by
 intro a;induction a using Nat.strongRecOn with
 | _ a ih =>
  intro b h;by_cases c:a=0
  ·subst c;simp[ER]
  ·rw[IM a c,IM b oo];have:=ih (a / 4294967296) oo (b / 4294967296) (Nat.div_le_div_right h);simp;omega
def GY (a b:Nat):Int:=if a<b then -1 else if b<a then 1 else 0
theorem I0 (xs:List Nat) (i:Nat):Ah xs=Ah (xs.take i)+4294967296 ^ (min i xs.length) * Ah (xs.drop i):=by
 conv=>lhs;rw[<- Kh i xs]
 rw[FI];simp
theorem O6 (xs ys:List Nat) (k:EB xs) (o:xs.length=ys.length) (i x y:Nat) (c:xs[i]?=some x) (g:ys[i]?=some y) (q:x<y) (j:xs.drop (i+1)=ys.drop (i+1)):Ah xs<Ah ys:=by
 have d:i<xs.length:=(Au.1 c).1;have e:i<ys.length:=by omega
 rw[I0 xs i,I0 ys i];have e1:xs.drop i=x::xs.drop (i+1):=by rw[ED d];rw[DH d]at c;cases c;rfl
 have e2:ys.drop i=y::ys.drop (i+1):=by rw[ED e];rw[DH e]at g;cases g;rfl
 rw[e1,e2,j];simp only[Ah];have e3:min i xs.length=i:=by omega
 have e4:min i ys.length=i:=by omega
 rw[e3,e4];have l:Ah (xs.take i)<4294967296 ^ i:=by have:=Fm (xs.take i) (k.take i);simpa[e3] using this
 generalize Ah (ys.drop (i+1))=t;have m:4294967296 ^ i * (x+4294967296 * t)+4294967296 ^ i<=4294967296 ^ i * (y+4294967296 * t):=by rw[<- PV];exact HV _ oo
 omega
theorem ES {a b:Nat}(h:(Ae a).length<(Ae b).length):a<b:=by
 rcases Dl a b with h1 | h1
 ·exact h1
 ·have:=AA b a h1;omega
theorem A30 {a b:Nat}(h:Ae a=Ae b):a=b:=by rw[<- Al a,<- Al b,h]
theorem A2f (m:Nat) (_h:m<18446744073709551616):EB [m % 4294967296,m / 4294967296 % 4294967296]:=by intro x c;simp at c;rcases c with rfl | rfl <;> omega
theorem XB (m:Nat) (h:m<18446744073709551616):Ah [m % 4294967296,m / 4294967296 % 4294967296]=m:=by simp only[Ah];omega
theorem Ew {xs:List Nat}(h:EB xs) (c:xs.length<=2):Ah xs<18446744073709551616:=by
 match xs,c with
 | [],_=>simp[Ah]
 | [a],_=>have:=h a sm;simp only[Ah];omega
 | [a,b],_=>have:=h a sm;have:=h b sm;simp only[Ah];omega
theorem Db {m:Nat}(h:m<18446744073709551616):(Ae m).length<=2:=by have:=Ap _ (A2f m h);rw[XB m h]at this;simpa using this
theorem Rl (x y s:Nat) (c:x<2 ^ s):(x ||| y * 2 ^ s)=x+y * 2 ^ s:=by have:=Nat.two_pow_add_eq_or_of_lt c y;rw[NP,AQ y,<- this,FD]
theorem Gn {a k:Nat}(h:a<4294967296 ^ k):(Ae a).length<=k:=by
 have:∀ k a,a<4294967296 ^ k->(Ae a).length<=k:=by
  intro k;induction k with
  | zero =>
       intro a h;have:a=0:=by simpa using h
       subst this;simp[ER]
  | succ k ih =>
   intro a h;by_cases c:a=0
   ·subst c;simp[ER]
   ·rw[IM a c];have:=ih (a / 4294967296) (Ki (by rw[Ck,AQ]at h;exact h));simp;omega
 exact this k a h
theorem IA (a:Nat):a<4294967296 ^ (Ae a).length:=by have:=Fm (Ae a) (KQ a);rwa [Al]at this
theorem FY (a b:Nat):(Ae (a+b)).length<=max (Ae a).length (Ae b).length+1:=by apply Gn;have c:=IA a;have d:=IA b;have e:(4294967296:Nat) ^ (Ae a).length<=4294967296 ^ max (Ae a).length (Ae b).length:=DB de (Nat.le_max_left _ _);have g:(4294967296:Nat) ^ (Ae b).length<=4294967296 ^ max (Ae a).length (Ae b).length:=DB de (Nat.le_max_right _ _);rw[Ck];omega
theorem KR (a b:Nat):(Ae (a * b)).length<=(Ae a).length+(Ae b).length:=by apply Gn;rw[Df];exact Nat.mul_lt_mul'' (IA a) (IA b)
theorem Qb (x y:Nat) (c:x<4294967296):(x ||| y * 4294967296)=x+y * 4294967296:=Rl x y 32 c
end Go.Qf
namespace Go.Qf
open Go Go.RowKit Go.Proofs Go.Proofs.Tryz
theorem OJ (x:Nat) (h:x<18446744073709551616):(BitVec.ofInt 64 (x:Int)).toNat=x:=by simp;omega
theorem IB (x:Nat) (h:x<4294967296):(BitVec.ofInt 32 (x:Int)).toNat=x:=by simp;omega
theorem Pb (x y:Nat) (c:x<18446744073709551616) (d:y<18446744073709551616):Km .or .u64 x y=((x ||| y:Nat):Int):=by have e:x ||| y<2 ^ 64:=TD (by simpa using c) (by simpa using d);show IntKind.u64.wrap (((BitVec.ofInt 64 (x:Int) ||| BitVec.ofInt 64 (y:Int)).toNat:Nat):Int)=_;rw[BitVec.toNat_or,OJ x c,OJ y d];exact BG oo oo
theorem A0C (x y:Nat) (c:x<4294967296) (d:y<4294967296):Km .or .u32 x y=((x ||| y:Nat):Int):=by have e:x ||| y<2 ^ 32:=TD (by simpa using c) (by simpa using d);show IntKind.u32.wrap (((BitVec.ofInt 32 (x:Int) ||| BitVec.ofInt 32 (y:Int)).toNat:Nat):Int)=_;rw[BitVec.toNat_or,IB x c,IB y d];exact Hs oo oo
theorem A6k (x y:Nat) (c:x<4294967296) (d:y<4294967296):Km .and .u32 x y=((x &&& y:Nat):Int):=by have e:x &&& y<=x:=Nat.and_le_left;show IntKind.u32.wrap (((BitVec.ofInt 32 (x:Int) &&& BitVec.ofInt 32 (y:Int)).toNat:Nat):Int)=_;rw[BitVec.toNat_and,IB x c,IB y d];exact Hs oo oo
variable {n:Nat}{E:List (Nat×Value)}{fn:Func}{Q:Exit->Act->World->Prop}{l:List Oper}{ops:Array Oper}
theorem Dv:prog.follows .mixedOrders=true:=by kernel_rfl
theorem Be {f:FuncId}(h:prog.funcs[f]?=some fn) (h1:(fn.name == "runtime.NumGoroutine")=false:=by kernel_rfl) (h2:fn.body.isNone=false:=by kernel_rfl):Oy prog f fn:=⟨h,h1,h2⟩
abbrev CK:=Be func9
abbrev FZ:=Be func10
abbrev Dp:=Be func11
abbrev Cq:=Be func12
abbrev EY:=Be func13
abbrev Dw:=Be func14
abbrev AW:=Be func15
abbrev I3:=Be func16
abbrev JR:=Be func17
abbrev ET:=Be func18
abbrev Rm:=Be func19
abbrev SV:=Be func20
abbrev Qc:=Be func21
abbrev Sk:=Be func22
abbrev G0:=Be func23
abbrev Fc:=Be func24
abbrev Qd:=Be func25
abbrev SW:=Be func26
abbrev Qe:=Be func27
abbrev Us:=Be func28
abbrev Mq:=Be func29
abbrev MR:=Be func30
abbrev J9:=Be func31
abbrev Wd:=Be func32
abbrev SX:=Be func33
abbrev Ef:=Be func34
abbrev Cl:=Be func35
abbrev MS:=Be func36
abbrev D8:=Be func37
abbrev IP:=Be func38
abbrev BC:=Be func39
abbrev Ko:=Be func40
abbrev Rn:=Be func41
abbrev MT:=Be func42
abbrev CF:=Be func43
abbrev Mr:=Be func44
abbrev Ro:=Be func45
abbrev OA:=Be func46
abbrev Hu:=Be func47
abbrev Jl:=Be func48
abbrev XC:=Be func49
abbrev Ut:=Be func50
abbrev G1:=Be func51
abbrev Pc:=Be func52
abbrev Pd:=Be func53
abbrev LY:=Be func54
abbrev Z4:=Be func55
abbrev KS:=Be func56
abbrev XD:=Be func57
abbrev Uu:=Be func58
abbrev Wf:=Be func59
abbrev O7:=Be func60
abbrev Ja:=Be func61
abbrev Z5:=Be func62
abbrev Pe:=Be func63
abbrev XE:=Be func64
abbrev SY:=Be func65
abbrev SZ:=Be func66
abbrev MA:=Be func67
abbrev Fp:=Be func68
abbrev AB:=Be func69
abbrev BO:=Be func70
abbrev Qg:=Be func71
abbrev Bu:=Be func72
abbrev CM:=Be func73
abbrev CT:=Be func74
abbrev Ms:=Be func75
abbrev EU:=Be func76
abbrev GJ:=Be func77
abbrev JA:=Be func78
abbrev KT:=Be func79
abbrev Qh:=Be func80
abbrev Rp:=Be func81
abbrev Ge:=Be func82
abbrev Dd:=Be func83
abbrev DP:=Be func84
abbrev Pf:=Be func85
abbrev FJ:=Be func86
abbrev BP:=Be func87
abbrev A0D:=Be func88
abbrev EF:=Be func89
abbrev Sm:=Be func90
abbrev Uv:=Be func91
abbrev Pg:=Be func92
abbrev Uw:=Be func93
abbrev Qi:=Be func94
abbrev KU:=Be func95
abbrev Wg:=Be func96
abbrev Jb:=Be func97
abbrev Qj:=Be func98
abbrev Sn:=Be func99
abbrev Mt:=Be func100
abbrev Z6:=Be func101
abbrev Wh:=Be func102
abbrev Rq:=Be func103
abbrev JS:=Be func104
abbrev Mu:=Be func105
abbrev KV:=Be func106
abbrev HL:=Be func107
abbrev Dt:=Be func109
abbrev MU:=Be func110
abbrev G3:=Be func111
abbrev T9:=Be func112
abbrev XF:=Be func114
abbrev Ux:=Be func115
abbrev Z7:=Be func116
abbrev DC:=Be func117
abbrev CU:=Be func118
abbrev Ta:=Be func119
abbrev Uy:=Be func120
abbrev Uz:=Be func121
abbrev Hv:=Be func122
abbrev JT:=Be func123
abbrev Wi:=Be func124
abbrev FK:=Be func125
abbrev HM:=Be func126
abbrev OK:=Be func127
abbrev JB:=Be func128
abbrev MV:=Be func129
abbrev I4:=Be func130
abbrev A0E:=Be func131
abbrev I5:=Be func132
abbrev A0F:=Be func133
abbrev LZ:=Be func134
abbrev Hw:=Be func135
abbrev Rs:=Be func136
abbrev Qk:=Be func138
abbrev Tb:=Be func139
abbrev Jm:=Be func140
abbrev OL:=Be func142
abbrev OM:=Be func143
abbrev KW:=Be func144
abbrev Tc:=Be func145
abbrev Gz:=Be func146
abbrev Ca:=Be func147
abbrev IQ:=Be func148
abbrev Ql:=Be func149
abbrev UA:=Be func150
abbrev Mv:=Be func151
abbrev KF:=Be func152
abbrev G5:=Be func153
abbrev OO:=Be func154
abbrev Hx:=Be func155
abbrev KX:=Be func156
abbrev A0G:=Be func157
abbrev UB:=Be func159
abbrev UC:=Be func161
abbrev Mw:=Be func162
abbrev UD:=Be func163
abbrev XG:=Be func164
abbrev Gi:=Be func165
abbrev IU:=Be func166
abbrev OP:=Be func167
abbrev Wj:=Be func168
abbrev UE:=Be func169
abbrev Qm:=Be func170
abbrev Kq:=Be func171
abbrev Kr:=Be func172
abbrev Hy:=Be func173
abbrev XH:=Be func174
abbrev Fe:=Be func175
abbrev EV:=Be func176
abbrev IC:=Be func177
abbrev I6:=Be func178
abbrev JU:=Be func179
abbrev Z8:=Be func180
abbrev Ph:=Be func181
abbrev XI:=Be func182
abbrev Pj:=Be func183
abbrev A0H:=Be func184
abbrev OQ:=Be func185
abbrev Pk:=Be func186
abbrev Hz:=Be func187
abbrev OT:=Be func188
abbrev JV:=Be func190
abbrev JW:=Be func191
abbrev Ks:=Be func192
abbrev Rt:=Be func193
abbrev XJ:=Be func194
abbrev Z9:=Be func195
abbrev UF:=Be func200
abbrev Qn:=Be func201
abbrev A0I:=Be func202
abbrev UG:=Be func203
abbrev XK:=Be func204
abbrev Qo:=Be func205
abbrev Pm:=Be func206
abbrev IV:=Be func207
abbrev JC:=Be func208
abbrev IW:=Be func209
abbrev MB:=Be func210
abbrev MD:=Be func211
abbrev Wk:=Be func212
abbrev KY:=Be func213
abbrev MW:=Be func214
abbrev ME:=Be func215
abbrev KZ:=Be func216
abbrev MX:=Be func217
abbrev Qp:=Be func218
abbrev L5:=Be func219
abbrev OB:=Be func220
abbrev OC:=Be func221
abbrev Ru:=Be func222
abbrev GK:=Be func223
abbrev MF:=Be func224
abbrev Pn:=Be func225
abbrev MY:=Be func228
abbrev JX:=Be func229
abbrev A0J:=Be func230
abbrev Po:=Be func231
abbrev Wl:=Be func232
abbrev Td:=Be func233
abbrev UH:=Be func234
abbrev Wm:=Be func235
abbrev Sq:=Be func236
theorem Af.r {w:World}{E':List (Nat×Value)}{l':List Oper}(h:AZ TB n ops 99 E l=(E',l')) (k:Af prog n E' w ops l' Q):Af prog n E w ops l Q:=Af.run A8 99 h k
theorem A7 {p q:Prop}(x:q) (h:q->p:=by intro y;(iterate 6 refine Nv ?_;try refine .r rfl ?_);exact y):p:=h x
theorem St.cf{w:World}{c:Operand}{x y:Code}{b:Bool}{q:Prop}(k:q) (h:q->St prog n E w y Q:=by intro z;(iterate 6 refine Nv ?_;try refine .r rfl ?_);exact z) (d:ov E c=some (.bool b):=by exact rfl) (e:b=false:=by exact rfl):St prog n E w (.cond c x y) Q:=St.ay d e (h k)
theorem St.ct{w:World}{c:Operand}{x y:Code}{b:Bool}{q:Prop}(k:q) (h:q->St prog n E w x Q:=by intro z;(iterate 6 refine Nv ?_;try refine .r rfl ?_);exact z) (d:ov E c=some (.bool b):=by exact rfl) (e:b=true:=by exact rfl):St prog n E w (.cond c x y) Q:=St.aD d e (h k)
variable {j m id:Nat}{P:Program}{o:Oper}{w0:World}
def Cr (o:Oper):List Nat:=(o.after.toList.filter (Region.binds .any)).map (·.on)
theorem GL:j ∈ Cr o↔∃ e ∈ o.after,Region.binds .any e=true/\e.on=j:=by simp[Cr,and_assoc]
def UI (acc:List Nat) (o:Oper):Nat:=(Cr o).foldl (fun s e=>s ||| 2 ^ e ||| acc.getD e 0) 0
def MZ:List Nat->List Oper->List Nat
 | acc,[]=>acc
 | acc,o::r=>MZ (acc++[UI acc o]) r
theorem A31 (acc:List Nat) (j:Nat):∀ (es:List Nat) (s:Nat),(es.foldl (fun s e=>s ||| 2 ^ e ||| acc.getD e 0) s).testBit j=true ->
  s.testBit j=true\/∃ e ∈ es,e=j\/(acc.getD e 0).testBit j=true:=by
 intro es;induction es with
 | nil=>intro s h;exact .inl h
 | cons e r ih =>
  intro s h;rw[TG]at h;rcases ih _ h with h1 | ⟨e',he,h1⟩
  ·rw[Nat.testBit_or,Nat.testBit_or,H9,H9,Nat.testBit_two_pow,decide_eq_true_eq]at h1;rcases h1 with (h1 | h1) | h1
   ·exact .inl h1
   ·exact .inr ⟨e,by simp,.inl h1⟩
   ·exact .inr ⟨e,by simp,.inr h1⟩
  ·exact .inr ⟨e',by simp[he],h1⟩
section
variable {l:List Oper}{L:Nat->Prop}
theorem Pp (t:∀ i o,l[i]?=some o->L i->∀ e ∈ Cr o,L e) :
  ∀ (r:List Oper) (acc:List Nat) (pre:List Oper),l=pre++r->acc.length=pre.length ->
   (∀ k o,k<acc.length->l[k]?=some o->(∀ e ∈ Cr o,L e)->∀ j,(acc.getD k 0).testBit j=true->L j) ->
   ∀ k o,l[k]?=some o->(∀ e ∈ Cr o,L e)->∀ j,((MZ acc r).getD k 0).testBit j=true->L j:=by
 intro r;induction r with
 | nil =>
  intro acc pre g u h k o m d j c;have:k<acc.length:=by have:=(Au.1 m).1;rw[g]at this;simp at this;omega
  exact h k o this m d j c
 | cons o r ih =>
  intro acc pre g u h;refine ih (acc++[UI acc o]) (pre++[o]) (by simp[g]) (by simp[u]) ?_;intro k o' m q d j c;by_cases v:k<acc.length
  ·have b:(acc++[UI acc o]).getD k 0=acc.getD k 0:=by simp[Bd,BM v]
   rw[b]at c;exact h k o' v q d j c
  ·have f:k=acc.length:=by simp at m;omega
   subst f;have p:o'=o:=by rw[g,u]at q;simpa using q.symm
   subst p;have:(acc++[UI acc o']).getD acc.length 0=UI acc o':=by simp[Bd]
   rw[this]at c;rcases A31 acc j (Cr o') 0 c with h1 | ⟨e,hee,h1 | h1⟩
   ·simp at h1
   ·subst h1;exact d e hee
   ·by_cases n:e<acc.length
    ·have a:∃ o2,l[e]?=some o2:=by
      have:e<l.length:=by rw[g];simp;omega
      exact⟨_,DH this⟩
     obtain⟨o2,y⟩:=a;exact h e o2 n y (fun e' z=>t e o2 y (d e hee) e' z) j h1
    ·rw[Bd,BJ oo]at h1;simp at h1
end
def A32 (op:Op):List Nat:=op.operands.toList.filterMap fun | .tmp t=>some t | _=>none
def BA (l:List Oper) (o:Oper):List Nat :=
 A32 o.op++(match o.guard with
  | none=>[]
  | some (j,_)=>match (l[j]?).bind (·.dst) with
   | some d=>[d]
   | none=>[])
abbrev GN:=Value->World->Prop
def BL:List (Nat×GN)->Nat->Option GN
 | [],_=>none
 | (k,v)::r,n=>bif Nat.beq k n then some v else BL r n
def Rh (S:List (Nat×GN)):List Nat->List (Nat×Value)->World->(List (Nat×Value)->Prop)->Prop
 | [],E,_,k=>k E
 | t::ts,E,w,k =>
  match BL S t with
  | some ψ=>∀ v,ψ v w->Rh S ts ((t,v)::E) w k
  | none=>Rh S ts E w k
def Za:List (Nat×GN)->List (Nat×Value)->World->(List (Nat×Value)->Prop)->Prop
 | [],E,_,k=>k E
 | (t,ψ)::r,E,w,k=>∀ v,ψ v w->Za r ((t,v)::E) w k
def Zb:List (Nat×GN)->Prop
 | []=>True
 | (_,ψ)::r=>(∀ v w w',Ac w w'->ψ v w->ψ v w')/\Zb r
def Cg:Op->Bool
 | .alloc _=>true
 | .box _ _=>true
 | _=>false
def OU (o:Oper) (S:List (Nat×GN)) (w1:World) (v:Value) (w2:World):Prop :=
 Ac w1 w2/\(∀ d ψ,o.dst=some d->BL S d=some ψ->ψ v w2)/\(Cg o.op=true->∃ b,v=.pointer (some ⟨b,0,none⟩)/\w1.heap.size<=b/\b<w2.heap.size)
def Jc:List Oper->List Nat
 | []=>[]
 | o::r=>match o.dst with
  | some d=>bif Cg o.op then d::Jc r else Jc r
  | none=>Jc r
def A0K (ts:List Nat) (E:List (Nat×Value)):Prop:=∀ t,t ∈ ts->∀ t',t' ∈ ts->t≠t'->∀ v,AR E t=some v->AR E t'=some v->False
def Zc (P:Program) (n:Nat) (l:List Oper) (S:List (Nat×GN)) (E:List (Nat×Value)) (w:World):List Oper->Prop
 | []=>True
 | o::r=>(∀ w1,Ac w w1->Rh S (BA l o) E w1 (fun E2=>CD P n l.toArray o E2 w1 (OU o S w1)))/\Zc P n l S E w r
def A2g:Option Value->Bool
 | none=>true
 | some _=>false
def Ec:List Oper->List Nat
 | []=>[]
 | o::r=>match o.dst with
  | some d=>d::Ec r
  | none=>Ec r
def XL (l:List Oper) (m:Nat) (S:List Nat):Bool :=
 Nat.ble m l.length &&
 (List.range l.length).all (fun i=>match l[i]? with | some o=>(Cr o).all (fun e=>Nat.blt e i) | none=>false) &&
 (List.range m).all (fun i=>match l[i]? with
  | some o=>(match o.dst with | some d=>S.contains d | none=>false) && (BA l o).all (fun t=>!(S.contains t) || (List.range m).any (fun j=>match l[j]? with | some oj=>oj.dst == some t && (Cr o).contains j | none=>false))
  | none=>false) &&
 (List.range m).all (fun i=>(List.range m).all (fun j=>Nat.beq i j || match l[i]?,l[j]? with | some a,some b=>!(a.dst == b.dst) | _,_=>false)) &&
 S.all (fun t=>(List.range m).any (fun j=>match l[j]? with | some oj=>oj.dst == some t | none=>false)) &&
 (List.range l.length).all (fun k=>Nat.blt k m || (List.range k).all (fun j=>((MZ [] l).getD k 0).testBit j))
def Ss:List Nat->List (Nat×Value)->Bool
 | [],_=>true
 | d::r,E=>A2g (AR E d) && Ss r E
theorem UJ:∀ {S:List Nat},Ss S E=true->∀ d ∈ S,AR E d=none:=by
 intro S;induction S with
 | nil=>intro _ d c;cases c
 | cons x r ih =>
  intro h d c;simp only[Ss,Et]at h;rcases Cw.1 c with rfl | c
  ·cases hl:AR E d with
   | none=>rfl
   | some v=>rw[hl]at h;simp[A2g]at h
  ·exact ih h.2 d c
structure A4g (l:List Oper) (m:Nat) (S:List Nat):Prop where
 le:m<=l.length
 back:∀ i o,l[i]?=some o->∀ e ∈ Cr o,e<i
 dst:∀ i o,i<m->l[i]?=some o->∃ d,o.dst=some d/\d ∈ S
 pred:∀ i o,i<m->l[i]?=some o->∀ t ∈ BA l o,t ∈ S->∃ j oj,j<m/\l[j]?=some oj/\oj.dst=some t/\j ∈ Cr o
 inj:∀ i j a b,i<m->j<m->l[i]?=some a->l[j]?=some b->a.dst=b.dst->i=j
 src:∀ t ∈ S,∃ j oj,j<m/\l[j]?=some oj/\oj.dst=some t
 last:∀ k,m<=k->k<l.length->∀ j,j<k->((MZ [] l).getD k 0).testBit j=true
theorem Zd {S:List Nat}(h:XL l m S=true):A4g l m S:=by
 simp only[XL,Et]at h;obtain⟨⟨⟨⟨⟨z,f⟩,y⟩,n⟩,p⟩,s⟩:=h;have E:=Jr z;refine⟨E,?_,?_,?_,?_,?_,?_⟩
 ·intro i o u e C;have q:=(Au.1 u).1;have:=Eu.1 f i (CZ.2 q);rw[u]at this;simpa[Kg] using Eu.1 this e C
 ·intro i o q u;have:=Eu.1 y i (CZ.2 q);rw[u]at this;simp only[Et]at this;cases hd:o.dst with
  | none=>rw[hd]at this;simp at this
  | some d=>rw[hd]at this;exact⟨d,rfl,by simpa using this.1⟩
 ·intro i o q u t v w;have:=Eu.1 y i (CZ.2 q);rw[u]at this;simp only[Et]at this;have c:=Eu.1 this.2 t v;simp only[H9]at c;rcases c with c | c
  ·simp[w]at c
  ·obtain⟨j,r,g⟩:=TH.1 c;cases hoj:l[j]? with
   | none=>rw[hoj]at g;simp at g
   | some oj =>
    rw[hoj]at g;simp only[Et,beq_iff_eq,List.contains_iff_mem]at g;exact⟨j,oj,CZ.1 r,hoj,g.1,g.2⟩
 ·intro i j a b q r x B A;have:=Eu.1 (Eu.1 n i (CZ.2 q)) j (CZ.2 r);rw[x,B]at this;simp only[H9]at this;rcases this with c | c
  ·exact J3 c
  ·simp[A]at c
 ·intro t v;obtain⟨j,r,g⟩:=TH.1 (Eu.1 p t v);cases hoj:l[j]? with
  | none=>rw[hoj]at g;simp at g
  | some oj =>
   rw[hoj]at g;exact⟨j,oj,CZ.1 r,hoj,by simpa using g⟩
 ·intro k F D j r;have:=Eu.1 s k (CZ.2 D);simp only[H9]at this;rcases this with c | c
  ·simp[Kg]at c;omega
  ·exact Eu.1 c j (CZ.2 r)
theorem A0L (x:∀ i o,l[i]?=some o->∀ e ∈ Cr o,e<i) (N:∀ k,m<=k->k<l.length->∀ j,j<k->((MZ [] l).getD k 0).testBit j=true):∀ (f k:Nat) (listed:Array Bool) (a:Act) (w:World),k+f=l.length->m<=k->listed.size=l.length ->
  (∀ i,i<k->listed.getD i false=true)->(∀ i,k<=i->listed.getD i false=false)->wpList P l.toArray Q (l.drop k) a w->wpAny P .any l.toArray Q f listed a w:=by
 intro f;induction f with
 | zero =>
  intro k listed a w M O p g q c;have K:k=l.length:=by omega
  subst K;refine⟨?_,by simpa[wpList] using c⟩;apply List.eq_nil_iff_forall_not_mem.2;intro i t;obtain⟨d,o,z,_⟩:=mem_ready.1 t;have I:i<l.length:=by have:=(Gt.1 z).1;simpa using this
  have:=g i I;simp[EK]at d this;cases hx:listed[i]? <;> simp[hx]at d this;rw[d]at this;cases this
 | succ f ih =>
  intro k listed a w M O p g q c;have b:k<l.length:=by omega
  have R:l.toArray[k]?=some l[k]:=by simp[b]
  have A:∀ i,i<l.length->listed.getD i true=listed.getD i false:=fun i t=>by
   have:i<listed.size:=by omega
   simp[EK,this]
  have C:k ∈ Region.ready .any l.toArray listed:=by refine mem_ready.2 ⟨by rw[A k b];exact q k AO,l[k],R,fun e u G=>g _ ?_⟩;exact x k l[k] (DH b) e.on (GL.2 ⟨e,u,G,rfl⟩)
  refine⟨fun h=>(by rw[h]at C;cases C),fun i t=>?_⟩;obtain⟨d,o,z,F⟩:=mem_ready.1 t;have v:i<l.length:=by have:=(Gt.1 z).1;simpa using this
  have n:l[i]?=some o:=by simpa using z
  rw[A i v]at d;have J:i=k:=by
   rcases LH i k with h4 | h4 | h4
   ·rw[g i h4]at d;cases d
   ·exact h4
   ·exfalso;have H:∀ j oj,l[j]?=some oj->(listed.getD j false=true)->∀ e ∈ Cr oj,listed.getD e false=true:=by
     intro j oj y B e u;have T:j<k:=by
      rcases Dl j k with r | r
      ·exact r
      ·rw[q j r]at B;cases B
     have:=x j oj y e u;exact g e oo
    have:=Pp (l:=l) (L:=fun j=>listed.getD j false=true) H l [] [] rfl rfl (fun j _ y=>by simp at y) i o n
     (fun e u=>by obtain⟨e',r,D,E⟩:=GL.1 u;subst E;exact F e' r D) k (N i oo v k h4)
    rw[q k AO]at this;cases this
  subst J;have S:o=l[i]:=by rw[DH v]at n;exact (Ir n).symm
  rw[ED v,<- S]at c;unfold wpOp;simp only[z];unfold wpList at c;have next:∀ a w,wpList P l.toArray Q (l.drop (i+1)) a w->wpAny P .any l.toArray Q f (listed.setIfInBounds i true) a w:=by
   intro a w c;refine ih (i+1) _ a w oo oo (by simpa using p) ?_ ?_ c
   ·intro j y;by_cases e:j=i
    ·subst e;simp[EK,p,v]
    ·have:=g j oo;simp only[EK]at this ⊢;rw[Iq (fun e'=>e e'.symm)];exact this
   ·intro j y;have:=q j oo;simp only[EK]at this ⊢;rw[Iq oo];exact this
  split
  ·rename_i s;rw[if_pos s]at c;rcases c with c | c
   ·exact .inl (Oper.wp_mono next c)
   ·exact .inr c
  ·rename_i s;rw[if_neg s]at c;exact next _ _ c
structure A8U (P:Program) (n:Nat) (l:List Oper) (m:Nat) (S:List (Nat×GN)) (E:List (Nat×Value)) (w0:World) (listed:Array Bool) (a:Act) (w:World):Prop where
 size:listed.size=l.length
 closed:∀ i o,l[i]?=some o->listed.getD i false=true->∀ e ∈ Cr o,listed.getD e false=true
 tmps:a.tmps.size=n
 defers:a.defers=[]
 base:∀ k v,AR E k=some v->a.tmps[k]?=some v
 facts:∀ i o d ψ,i<m->l[i]?=some o->listed.getD i false=true->o.dst=some d->BL S d=some ψ->∃ v,a.tmps[d]?=some v/\ψ v w
 ext:Ac w0 w
 noB:∀ i,m<=i->listed.getD i false=false
 made:∀ i o d,i<m->l[i]?=some o->listed.getD i false=true->Cg o.op=true->o.dst=some d->∃ b,a.tmps[d]?=some (.pointer (some ⟨b,0,none⟩))/\b<w.heap.size
 apart:∀ i j oi oj di dj v,i<m->j<m->i≠j->l[i]?=some oi->l[j]?=some oj->listed.getD i false=true->listed.getD j false=true->Cg oi.op=true->Cg oj.op=true->oi.dst=some di->oj.dst=some dj->a.tmps[di]?=some v->a.tmps[dj]?=some v->False
theorem M0 {t:Nat}:∀ {l:List Oper},t ∈ Jc l->∃ (i:Nat) (o:Oper),l[i]?=some o/\Cg o.op=true/\o.dst=some t:=by
 intro l;induction l with
 | nil=>intro h;cases h
 | cons o r ih =>
  intro h;unfold Jc at h;split at h
  ·rename_i d j;cases hb:Cg o.op with
   | true =>
    rw[hb]at h;simp only[cond_true,Cw]at h;rcases h with rfl | h
    ·exact⟨0,o,rfl,hb,j⟩
    ·obtain⟨i,o',c,e,g⟩:=ih h;exact⟨i+1,o',by simpa using c,e,g⟩
   | false =>
    rw[hb]at h;simp only[cond_false]at h;obtain⟨i,o',c,e,g⟩:=ih h;exact⟨i+1,o',by simpa using c,e,g⟩
  ·obtain⟨i,o',c,e,g⟩:=ih h;exact⟨i+1,o',by simpa using c,e,g⟩
theorem A33 {S:List (Nat×GN)}{t:Nat}:t ∈ S.map (·.1)->∃ ψ,BL S t=some ψ:=by
 induction S with
 | nil=>intro h;cases h
 | cons p r ih =>
  obtain⟨k,ψ⟩:=p;intro h;by_cases e:k=t
  ·subst e;exact⟨ψ,by simp[BL]⟩
  ·have c:Nat.beq k t=false:=by
    cases c:Nat.beq k t
    ·rfl
    ·exact absurd (J3 c) e
   simp only[Er,Cw]at h;obtain⟨φ,d⟩:=ih (h.resolve_left (fun x=>e x.symm));exact⟨φ,by simp[BL,c,d]⟩
theorem JY {S:List (Nat×GN)}{t:Nat}{ψ:GN}:BL S t=some ψ->(t,ψ) ∈ S:=by
 induction S with
 | nil=>intro h;simp[BL]at h
 | cons p r ih =>
  obtain⟨k,φ⟩:=p;intro h;by_cases e:k=t
  ·subst e;simp[BL]at h;subst h;simp
  ·have c:Nat.beq k t=false:=by
    cases c:Nat.beq k t
    ·rfl
    ·exact absurd (J3 c) e
   simp[BL,c]at h;exact HW _ (ih h)
theorem A0M:∀ {S:List (Nat×GN)},Zb S->∀ {t:Nat}{ψ:GN},BL S t=some ψ->∀ v w w',Ac w w'->ψ v w->ψ v w':=by
 intro S;induction S with
 | nil=>intro _ t ψ h;simp[BL]at h
 | cons p r ih =>
  obtain⟨k,φ⟩:=p;intro d t ψ h;by_cases e:k=t
  ·subst e;simp[BL]at h;subst h;exact d.1
  ·have c:Nat.beq k t=false:=by
    cases c:Nat.beq k t
    ·rfl
    ·exact absurd (J3 c) e
   simp[BL,c]at h;exact ih d.2 h
theorem Ze {S:List (Nat×GN)}{w:World}{a:Act}{k:List (Nat×Value)->Prop}(o:a.tmps.size=n) (l:a.defers=[]):∀ (ts:List Nat) (E:List (Nat×Value)),(∀ k v,AR E k=some v->a.tmps[k]?=some v) ->
  (∀ t ∈ ts,∀ ψ,BL S t=some ψ->∃ v,a.tmps[t]?=some v/\ψ v w)->Rh S ts E w k->∃ E2,DM n E2 a/\k E2:=by
 intro ts;induction ts with
 | nil=>intro E c _ h;exact⟨E,⟨o,l,c⟩,h⟩
 | cons t r ih =>
  intro E c g h;simp only[Rh]at h;split at h
  ·rename_i ψ q;obtain⟨v,hv,m⟩:=g t sm ψ q;refine ih ((t,v)::E) ?_ (fun t' j=>g t' (by simp[j])) (h v m);intro k' u d;by_cases e:t=k'
   ·subst e;rw[AF]at d;cases d;exact hv
   ·rw[Bc _ _ e]at d;exact c k' u d
  ·exact ih E c (fun t' j=>g t' (by simp[j])) h
theorem Rv {w:World}{a:Act}{k:List (Nat×Value)->Prop}(m:a.tmps.size=n) (j:a.defers=[]):∀ (S:List (Nat×GN)) (E:List (Nat×Value)),(∀ k v,AR E k=some v->a.tmps[k]?=some v) ->
  (∀ t ψ,(t,ψ) ∈ S->∃ v,a.tmps[t]?=some v/\ψ v w)->Za S E w k->∃ E2,DM n E2 a/\k E2:=by
 intro S;induction S with
 | nil=>intro E d _ h;exact⟨E,⟨m,j,d⟩,h⟩
 | cons p r ih =>
  obtain⟨t,ψ⟩:=p;intro E d g h;obtain⟨v,hv,l⟩:=g t ψ sm;refine ih ((t,v)::E) ?_ (fun t' ψ' o=>g t' ψ' (by simp[o])) (h v l);intro k' u c;by_cases e:t=k'
  ·subst e;rw[AF]at c;cases c;exact hv
  ·rw[Bc _ _ e]at c;exact d k' u c
theorem A0N {S:List (Nat×GN)}{w:World}:∀ {r:List Oper},Zc P n l S E w r->∀ o ∈ r,
  ∀ w1,Ac w w1->Rh S (BA l o) E w1 (fun E2=>CD P n l.toArray o E2 w1 (OU o S w1)):=by
 intro r;induction r with
 | nil=>intro _ o c;cases c
 | cons x r ih =>
  intro h o c;rcases Cw.1 c with rfl | c
  ·exact h.1
  ·exact ih h.2 o c
def Ff:List Nat->Bool
 | []=>true
 | x::r=>!(r.contains x) && Ff r
theorem Su {S:List (Nat×GN)}(c:Ff (S.map (·.1))=true) {t:Nat}{ψ:GN}(h:(t,ψ) ∈ S):BL S t=some ψ:=by
 induction S with
 | nil=>cases h
 | cons p r ih =>
  obtain⟨k,φ⟩:=p;simp only[Er,Ff,Et]at c;rcases Cw.1 h with h | h
  ·cases h;simp[BL]
  ·have e:k≠t:=by intro e;subst e;have:k ∈ r.map (·.1):=CG.2 ⟨_,h,rfl⟩;simp at c;exact c.1 _ h
   have d:Nat.beq k t=false:=by
    cases d:Nat.beq k t
    ·rfl
    ·exact absurd (J3 d) e
   simp only[BL,d,cond_false];exact ih c.2 h
theorem A7Q {S:List (Nat×GN)}(z:A4g l m (S.map (·.1))) (kr:Zb S) (km:∀ d ∈ S.map (·.1),AR E d=none)
  (kq:∀ d ∈ S.map (·.1),d<n) (kv:Zc P n l S E w0 (l.take m)) (ke:Ff (S.map (·.1))=true)
  (kb:∀ w1,Ac w0 w1->Za S E w1 (fun E2=>A0K (Jc (l.take m)) E2->Af P n E2 w1 l.toArray (l.drop m) Q)) :
  ∀ (f:Nat) (U:List Nat) (listed:Array Bool) (a:Act) (w:World),f=(l.length - m)+U.length->U.Nodup->(∀ i,i ∈ U↔i<m/\listed.getD i false=false)->A8U P n l m S E w0 listed a w->wpAny P .any l.toArray Q f listed a w:=by
 have ka:∀ {listed:Array Bool} {a:Act} {w:World},(∀ i,i ∈ ([]:List Nat)↔i<m/\listed.getD i false=false)->A8U P n l m S E w0 listed a w->∀ E2,DM n E2 a->A0K (Jc (l.take m)) E2:=by
  intro listed a w B c E2 H t J t' kw p v hv kz;obtain⟨i,oi,A,ki,h9⟩:=M0 J;obtain⟨j,oj,g,W,D⟩:=M0 kw;have F:i<m:=by have:=(Au.1 A).1;simp at this;omega
  have hz:j<m:=by have:=(Au.1 g).1;simp at this;omega
  rw[Dz F]at A;rw[Dz hz]at g;have hL:∀ i,i<m->listed.getD i false=true:=fun i A=>by
   cases s:listed.getD i false with
   | true=>rfl
   | false=>have:=(B i).2 ⟨A,s⟩;cases this
  refine c.apart i j oi oj t t' v F hz ?_ A g (hL i F) (hL j hz) ki W h9 D (H.slots t v hv) (H.slots t' v kz);intro e;subst e;rw[A]at g;cases g;rw[h9]at D;cases D;exact p rfl
 intro f;induction f with
 | zero =>
  intro U listed a w hf hU B c;have hm:m=l.length:=by have:=z.le;omega
  have V:U=[]:=FA oo;subst V;refine A0L z.back z.last 0 m listed a w oo AO c.size ?_ c.noB ?_
  ·intro i A;cases s:listed.getD i false with
   | true=>rfl
   | false=>have:=(B i).2 ⟨A,s⟩;cases this
  ·obtain⟨E2,H,h2⟩:=Rv c.tmps c.defers S E c.base (fun t ψ J=>by
    obtain⟨j,oj,g,q,D⟩:=z.src t (CG.2 ⟨_,J,rfl⟩);have hl:listed.getD j false=true:=by
     cases s:listed.getD j false with
     | true=>rfl
     | false=>have:=(B j).2 ⟨g,s⟩;cases this
    exact c.facts j oj t ψ g q hl D (Su ke J)) (kb w c.ext)
   exact h2 (ka B c E2 H) a H
 | succ f ih =>
  intro U listed a w hf hU B c;by_cases V:U=[]
  ·subst V;refine A0L z.back z.last (f+1) m listed a w (by have:=z.le;simp at hf;omega) AO c.size ?_ c.noB ?_
   ·intro i A;cases s:listed.getD i false with
    | true=>rfl
    | false=>have:=(B i).2 ⟨A,s⟩;cases this
   ·obtain⟨E2,H,h2⟩:=Rv c.tmps c.defers S E c.base (fun t ψ J=>by
     obtain⟨j,oj,g,q,D⟩:=z.src t (CG.2 ⟨_,J,rfl⟩);have hl:listed.getD j false=true:=by
      cases s:listed.getD j false with
      | true=>rfl
      | false=>have:=(B j).2 ⟨g,s⟩;cases this
     exact c.facts j oj t ψ g q hl D (Su ke J)) (kb w c.ext)
    exact h2 (ka B c E2 H) a H
  ·have kc:∀ i,i<l.length->listed.getD i true=listed.getD i false:=fun i A=>by
    have:i<listed.size:=by have:=c.size;omega
    simp[EK,this]
   have kl:∀ (i:Nat) (o:Oper),l[i]?=some o->(∀ e ∈ Cr o,listed.getD e false=true)->∀ j,((MZ [] l).getD i 0).testBit j=true->listed.getD j false=true :=
    Pp (l:=l) (L:=fun j=>listed.getD j false=true) c.closed l [] [] rfl rfl (fun j _ g=>by simp at g)
   constructor
   ·intro hr;exfalso;obtain⟨x,s⟩:=TJ U V;have kp:∀ b,∀ i,i<b->i<m->listed.getD i false=false->∃ i0,i0<m/\listed.getD i0 false=false/\∀ j,j<i0->listed.getD j false=true:=by
     intro b;induction b with
     | zero=>intro i A;omega
     | succ b ihb =>
      intro i A F ha;by_cases hn:∀ j,j<i->listed.getD j false=true
      ·exact⟨i,F,ha,hn⟩
      ·have:∃ j,j<i/\listed.getD j false=false:=by
        apply Classical.byContradiction;intro p;apply hn;intro j g;cases s:listed.getD j false with
        | true=>rfl
        | false=>exact absurd ⟨j,g,s⟩ p
       obtain⟨j,g,r⟩:=this;exact ihb j oo oo r
    obtain⟨i0,k2,ko,kj⟩:=kp (x+1) x oo ((B x).1 s).1 ((B x).1 s).2;have hy:i0<l.length:=by have:=z.le;omega
    have:i0 ∈ Region.ready .any l.toArray listed:=by refine mem_ready.2 ⟨by rw[kc i0 hy];exact ko,l[i0],by simp[hy],fun e N C=>kj _ ?_⟩;exact z.back i0 l[i0] (DH hy) e.on (GL.2 ⟨e,N,C,rfl⟩)
    rw[hr]at this;cases this
   ·intro i A;obtain⟨h3,o,ho,hn⟩:=mem_ready.1 A;have ha:i<l.length:=by have:=(Gt.1 ho).1;simpa using this
    have I:l[i]?=some o:=by simpa using ho
    rw[kc i ha]at h3;have hw:∀ e ∈ Cr o,listed.getD e false=true:=fun e N=>by obtain⟨e',h5,h6,h7⟩:=GL.1 N;subst h7;exact hn e' h5 h6
    have F:i<m:=by
     rcases Dl i m with h | h
     ·exact h
     ·exfalso;obtain⟨x,s⟩:=TJ U V;have k0:=(B x).1 s;have:=kl i o I hw x (z.last i h ha x oo);rw[k0.2]at this;cases this
    obtain⟨d,y,hq⟩:=z.dst i o F I;obtain⟨ψ,hψ⟩:=A33 hq;have kt:=A0N kv o (by
     have:(l.take m)[i]?=some o:=by rw[Dz F];exact I
     exact Bi this) w c.ext
    obtain⟨E2,H,hg⟩:=Ze c.tmps c.defers (BA l o) E c.base (fun t J φ T=>by obtain⟨j,oj,g,q,D,kn⟩:=z.pred i o F I t J (CG.2 ⟨_,JY T,rfl⟩);exact c.facts j oj t φ g q (hw j kn) D T) kt
    have hs:d<n:=kq d hq;have next:∀ v w2,OU o S w v w2->wpAny P .any l.toArray Q f (listed.setIfInBounds i true) (a.put o.dst v) w2:=by
     rintro v w2 ⟨h8,ku,kf⟩;have kd:i ∈ U:=(B i).2 ⟨F,h3⟩;have R:∀ j,(listed.setIfInBounds i true).getD j false=if j=i then true else listed.getD j false:=by
      intro j;simp only[EK];by_cases e:j=i
      ·subst e;simp[c.size,ha]
      ·rw[Iq (fun e'=>e e'.symm),if_neg e]
     refine ih (U.erase i) _ _ w2 ?_ (hU.erase i) ?_ ⟨by simpa using c.size,?_,?_,?_,?_,?_,c.ext.trans h8,?_,?_,?_⟩
     ·have k3:0<U.length:=List.length_pos_of_mem kd;rw[List.length_erase_of_mem kd];omega
     ·intro j;rw[hU.mem_erase_iff,R];constructor
      ·rintro⟨p,g⟩;rw[if_neg p];exact (B j).1 g
      ·rintro⟨g,hp⟩;by_cases e:j=i
       ·rw[if_pos e]at hp;cases hp
       ·rw[if_neg e]at hp;exact⟨e,(B j).2 ⟨g,hp⟩⟩
     ·intro j oj g r e N;rw[R]at r ⊢;by_cases e1:e=i
      ·rw[if_pos e1]
      ·rw[if_neg e1];by_cases e2:j=i
       ·subst e2;rw[I]at g;cases g;exact hw e N
       ·rw[if_neg e2]at r;exact c.closed j oj g r e N
     ·simp[y,Act.put,c.tmps]
     ·simp[y,Act.put,c.defers]
     ·intro k u K;have p:d≠k:=fun e=>by subst e;rw[km d hq]at K;cases K
      simp only[y,Act.put];rw[Iq p];exact c.base k u K
     ·intro j oj d' φ g q r G T;rw[R]at r;by_cases e:j=i
      ·subst e;rw[I]at q;cases q;rw[y]at G;cases G;refine⟨v,?_,ku d φ y T⟩;simp[y,Act.put,c.tmps,hs]
      ·rw[if_neg e]at r;obtain⟨u,hu,k1⟩:=c.facts j oj d' φ g q r G T;have p:d≠d':=fun e'=>e (z.inj j i oj o g F q I (by rw[G,y,e']));refine⟨u,?_,A0M kr T u w w2 h8 k1⟩;simp only[y,Act.put];rw[Iq p];exact hu
     ·intro j g;rw[R,if_neg oo];exact c.noB j g
     ·intro j oj d' g q r M G;rw[R]at r;by_cases e:j=i
      ·subst e;rw[I]at q;cases q;rw[y]at G;cases G;obtain⟨b,rfl,_,C⟩:=kf M;exact⟨b,by simp[y,Act.put,c.tmps,hs],C⟩
      ·rw[if_neg e]at r;obtain⟨b,C,Y⟩:=c.made j oj d' g q r M G;have p:d≠d':=fun e'=>e (z.inj j i oj o g F q I (by rw[G,y,e']));refine⟨b,?_,CW Y h8.size⟩;simp only[y,Act.put];rw[Iq p];exact C
     ·have h1:∀ j oj d' u,j<m->j≠i->l[j]?=some oj->listed.getD j false=true->Cg oj.op=true->oj.dst=some d'->(a.put o.dst v).tmps[d']?=some u->a.tmps[d']?=some u/\∃ b,u=.pointer (some ⟨b,0,none⟩)/\b<w.heap.size:=by intro j oj d' u g p q r M G hu;obtain⟨b,C,Y⟩:=c.made j oj d' g q r M G;have ks:d≠d':=fun e'=>p (z.inj j i oj o g F q I (by rw[G,y,e']));simp only[y,Act.put]at hu;rw[Iq ks]at hu;rw[C]at hu;cases hu;exact⟨C,b,rfl,Y⟩
      have kg:Cg o.op=true->∀ u,(a.put o.dst v).tmps[d]?=some u->∃ b,u=.pointer (some ⟨b,0,none⟩)/\w.heap.size<=b:=by
       intro M u hu;obtain⟨b,rfl,C,_⟩:=kf M;have:(a.put o.dst (.pointer (some ⟨b,0,none⟩))).tmps[d]?=some (.pointer (some ⟨b,0,none⟩)):=by simp[y,Act.put,c.tmps,hs]
       rw[this]at hu;cases hu;exact⟨b,rfl,C⟩
      intro j k oj ok dj dk u g K p q hc r O W hh D Z kh h4;rw[R]at r O;by_cases e1:j=i
      ·subst e1;have e2:¬ k=j:=fun e=>p e.symm;rw[if_neg e2]at O;rw[I]at q;cases q;rw[y]at D;cases D;obtain⟨_,b,C,Y⟩:=h1 k ok dk u K e2 hc O hh Z h4;obtain⟨b',X,kk⟩:=kg W u kh;rw[C]at X;cases X;omega
      ·rw[if_neg e1]at r;obtain⟨kx,b,C,Y⟩:=h1 j oj dj u g e1 q r W D kh;by_cases e2:k=i
       ·subst e2;rw[I]at hc;cases hc;rw[y]at Z;cases Z;obtain⟨b',X,kk⟩:=kg hh u h4;rw[C]at X;cases X;omega
       ·rw[if_neg e2]at O;obtain⟨ky,_⟩:=h1 k ok dk u K e2 hc O hh Z h4;exact c.apart j k oj ok dj dk u g K p q hc r O W hh D Z kx ky
    unfold wpOp;simp only[ho];rcases hg with ⟨hwant,hg⟩ | ⟨hwant,hg⟩
    ·rw[if_pos (CL H hwant)];exact .inl (hg a H Q _ next)
    ·rw[if_neg (by rw[CL H hwant];simp)];exact next undef w hg
theorem St.draw (m:Nat) (S:List (Nat×GN)) {w:World}(q:P.follows .mixedOrders=true) (k:XL l m (S.map (·.1))=true) (y:Ss (S.map (·.1)) E=true)
  (z:(S.map (·.1)).all (fun d=>Nat.blt d n)=true) (b:Ff (S.map (·.1))=true) (t:Zb S) (f:Zc P n l S E w (l.take m))
  (u:∀ w1,Ac w w1->Za S E w1 (fun E2=>A0K (Jc (l.take m)) E2->Af P n E2 w1 l.toArray (l.drop m) Q)):St P n E w (.region id l.toArray true) Q:=by
 intro a e;have g:=Zd k;refine wp_region_any q ?_;have p:Ac w { w with drawn:=w.drawn+1 }:=⟨rfl,rfl,rfl,Ai _,fun _ _=>rfl⟩;have x:=g.le;have c:∀ i,(Array.replicate l.toArray.size false).getD i false=false:=by intro i;simp[EK,Array.getElem?_replicate];split <;> simp
 refine A7Q g t (UJ y) (fun d r=>by simpa[Kg] using Eu.1 z d r) f b u l.toArray.size (List.range m) _ a _ (by simp;omega) List.nodup_range ?_ ⟨by simp,?_,e.size,e.defers,e.slots,?_,p,?_,?_,?_⟩
 ·intro i;rw[CZ,c];simp
 ·intro i o _ h;rw[c]at h;cases h
 ·intro i o d ψ _ _ h;rw[c]at h;cases h
 ·intro i _;exact c i
 ·intro i o d _ _ h;rw[c]at h;cases h
 ·intro i j oi oj s dj v _ _ _ _ _ h;rw[c]at h;cases h
theorem sD {w:World}(m:Nat) (S:List (Nat×GN)) (u:Zc P n l S E w (l.take m)) (j:∀ w1,Ac w w1->Za S E w1 (fun E2=>A0K (Jc (l.take m)) E2->Af P n E2 w1 l.toArray (l.drop m) Q)) (g:P.follows .mixedOrders=true:=by exact Dv) (e:XL l m (S.map (·.1))=true:=by kernel_rfl) (k:Ss (S.map (·.1)) E=true:=by exact rfl) (o:(S.map (·.1)).all (fun d=>Nat.blt d n)=true:=by kernel_rfl) (r:Ff (S.map (·.1))=true:=by kernel_rfl) (q:Zb S:=by repeat' first|exact trivial|exact Is.mono _|exact fun _ _ _ c hv=>hv.ext c|exact fun _ _ _ c hv=>hv|refine⟨?_,?_⟩):St P n E w (.region id l.toArray true) Q:=St.draw m S g e k o r q u j
variable {t ty et ty2:TypeId}{af af2:Array Edge}{g g2:Option (Nat×Bool)}{x:Operand}{s1 s2 d1 d2:Nat}{z:Value}{ti:TI}{Φ:Value->World->Prop}{cs vs:List Value}{iv:Int}{S:List (Nat×GN)}{ψ:GN}{args:Array Operand}{tys:Array TypeId}{pos2:String}
def QL (P:Program) (n:Nat) (E:List (Nat×Value)) (w:World) (ops:Array Oper) (l:List Oper) (Q:Exit->Act->World->Prop):Prop :=
 ∀ a,DM n E a->wpQuiet P ops (fun w'=>∃ m,w'=w.drewN m) (fun a'=>∀ w',(∃ m,w'=w.drewN m)->Q .normal a' w') l a
section
variable {P:Program}{T:List (Nat×TI)}{n:Nat}{E:List (Nat×Value)}{w:World}{Q:Exit->Act->World->Prop}{ops:Array Oper}{rest:List Oper}
theorem QL.nil (h:∀ m,Ad n E (w.drewN m) .normal Q):QL P n E w ops [] Q:=fun a c=>wpQuiet_nil (by rintro w' ⟨m,rfl⟩;exact h m a c)
theorem QL.step {d:Nat}{v:Value}(g:o.dst=some d) (k:Bg ops E o.guard=some true) (j:Nat.blt d n=true) (h:∀ m,A0 P n o E (w.drewN m) v) (next:QL P n ((d,v)::E) w ops rest Q):QL P n E w ops (o::rest) Q:=by intro a c;refine wpQuiet_step fun K e=>?_;rw[if_pos (CL c k)];refine⟨v,?_,e _ (next _ (by rw[g];exact c.put j v))⟩;rintro w' ⟨m,rfl⟩;unfold Oper.quietAt;rw[h m a c];exact⟨rfl,rfl⟩
theorem QL.skip {d:Nat}(g:o.dst=some d) (k:Bg ops E o.guard=some false) (j:Nat.blt d n=true) (next:QL P n ((d,undef)::E) w ops rest Q):QL P n E w ops (o::rest) Q:=by intro a c;refine wpQuiet_step fun K e=>?_;rw[if_neg (by rw[CL c k];simp)];exact e _ (next _ (by rw[g];exact c.put j undef))
theorem QL.run (j:Aw P T):∀ (m:Nat) {E E':List (Nat×Value)}{l l':List Oper},AZ T n ops m E l=(E',l')->QL P n E' w ops l' Q->QL P n E w ops l Q:=by
 intro m;induction m with
 | zero=>intro E E' l l' h c;simp only[AZ,Fh]at h;obtain⟨rfl,rfl⟩:=h;exact c
 | succ m ih =>
  intro E E' l l' h c;cases l with
  | nil=>simp only[AZ,Fh]at h;obtain⟨rfl,rfl⟩:=h;exact c
  | cons o r =>
   simp only[AZ]at h;split at h
   ·rename_i d e g;cases hb:Nat.blt d n with
    | false=>rw[hb]at h;simp only[cond_false,Fh]at h;obtain⟨rfl,rfl⟩:=h;exact c
    | true =>
     rw[hb]at h;simp only[cond_true]at h;split at h
     ·rename_i v hv;exact QL.step e g hb (fun _=>A0.pure j hv) (ih h c)
     ·simp only[Fh]at h;obtain⟨rfl,rfl⟩:=h;exact c
   ·rename_i d e g;cases hb:Nat.blt d n with
    | false=>rw[hb]at h;simp only[cond_false,Fh]at h;obtain⟨rfl,rfl⟩:=h;exact c
    | true =>
     rw[hb]at h;simp only[cond_true]at h;exact QL.skip e g hb (ih h c)
   ·simp only[Fh]at h;obtain⟨rfl,rfl⟩:=h;exact c
theorem QL.as (c:Aw P T) (m:Nat) {E':List (Nat×Value)}{l':List Oper}{d:Nat}{v:Value}(v':Value) (h:AZ T n ops m E l=((d,v)::E',l')) (hv:v=v') (e:QL P n ((d,v')::E') w ops l' Q):QL P n E w ops l Q :=
 QL.run c m (hv ▸ h) e
theorem QL.elem (d:Aw P T) {u:TypeId}{i:Operand}{pos:String}{sv:Value}{k:IntKind}(j:Nat) (c:Value)
  (A:Jk et w sv cs) (e:cs[j]?=some c) (F:iv=j)
  (D:AG T t=some ⟨.slice et,s1,s2,z⟩) (l:AG T et=some ti) (C:ti.size=1) (q:DJ ti.desc=false) (hu:u=et)
  (o:ov E x=some sv) (b:ov E i=some (.int k iv)) (v:Bg ops E g=some true) (h:Nat.blt d1 n=true) (s:Nat.blt d2 n=true) (y:∀ p,Bg ops ((d1,p)::E) g2=some true)
  (next:∀ p,QL P n ((d2,c)::(d1,p)::E) w ops rest Q) :
  QL P n E w ops (⟨some d1,.indexAddr t x i,ty,pos,af,g⟩::⟨some d2,.load u (.tmp d1),ty2,pos2,af2,g2⟩::rest) Q:=by obtain⟨a,cap,B,r⟩:=A.get e;have G:j<cs.length:=(Au.1 e).1;subst hu;rw[B]at o;refine QL.step rfl v h (fun m=>A0.indexAddr d D l C o b oo oo) ?_;rw[show iv.toNat=j from by omega];have f:ov ((d1,.pointer (some (a.add j)))::E) (.tmp d1)=some (.pointer (some (a.add j))):=AF _ _ _;exact QL.step rfl (y _) s (fun m=>A0.load d l q f r) (next _)
theorem St.quiet (c:P.follows .mixedOrders=true) (hB:Region.lexB .any l.toArray=true) (h:QL P n E w l.toArray l Q):St P n E w (.region id l.toArray true) Q :=
 fun a d=>wp_region_quiet_lit c hB (h a d)
theorem CD.run {d:Nat}{v:Value}(l:o.dst=some d) (j:BL S d=some ψ) (k:Cg o.op=false) (m:Bg ops E o.guard=some true) (h:A0 P n o E w v) (q:ψ v w):CD P n ops o E w (OU o S w):=by refine .inl ⟨m,h.op.mono ?_⟩;rintro v' w' ⟨rfl,rfl⟩;refine⟨Ac.refl _,fun d' φ c g=>?_,fun e=>by rw[k]at e;cases e⟩;rw[l]at c;cases c;rw[j]at g;cases g;exact q
theorem oR {d:Nat}{v:Value}(h:A0 P n o E w v) (k:ψ v w) (g:o.dst=some d:=by exact rfl) (c:BL S d=some ψ:=by exact rfl) (e:Cg o.op=false:=by exact rfl) (j:Bg ops E o.guard=some true:=by exact rfl):CD P n ops o E w (OU o S w):=CD.run g c e j h k
theorem CD.pure (e:Aw P T) {d:Nat}{v:Value}(j:o.dst=some d) (c:BL S d=some ψ) (g:Cg o.op=false) (k:Bg ops E o.guard=some true) (h:Ht T E o.op=some v) (l:ψ v w):CD P n ops o E w (OU o S w) :=
 CD.run j c g k (A0.pure e h) l
theorem oP {d:Nat}{v:Value}  (e:Aw P T:=by exact A8) (j:o.dst=some d:=by exact rfl) (c:BL S d=some ψ:=by exact rfl) (g:Cg o.op=false:=by exact rfl) (k:Bg ops E o.guard=some true:=by exact rfl) (h:Ht T E o.op=some v:=by exact rfl) (l:ψ v w:=by exact rfl):CD P n ops o E w (OU o S w):=CD.pure e j c g k h l
theorem CD.op {d:Nat}(m:o.dst=some d) (k:BL S d=some ψ) (l:Cg o.op=false) (q:Bg ops E o.guard=some true) (h:Av P n o E w Φ) (j:∀ v w',Φ v w'->Ac w w'/\ψ v w'):CD P n ops o E w (OU o S w):=by refine .inl ⟨q,h.mono ?_⟩;intro v' w' hv;refine⟨(j v' w' hv).1,fun d' φ c g=>?_,fun e=>by rw[l]at e;cases e⟩;rw[m]at c;cases c;rw[k]at g;cases g;exact (j v' w' hv).2
theorem CD.call {f:FuncId}(c:Oy P f fn) {d:Nat}{pos:String}
  (e:BL S d=some ψ) (l:Bg ops E g=some true) (j:Z3 E args.toList=some vs) (k:Calls P f vs.toArray w (AJ Φ)) (m:∀ v w',Φ v w'->Ac w w'/\ψ v w') :
  CD P n ops ⟨some d,.call ⟨.value (.func f),args,tys⟩,ty,pos,af,g⟩ E w (OU ⟨some d,.call ⟨.value (.func f),args,tys⟩,ty,pos,af,g⟩ S w) :=
 CD.op rfl e rfl l (Av.call c j k) m
theorem oC {f:FuncId}{d:Nat}{pos:String}(c:Oy P f fn) (k:Calls P f vs.toArray w (AJ Φ)) (m:∀ v w',Φ v w'->Ac w w'/\ψ v w') (e:BL S d=some ψ:=by exact rfl) (l:Bg ops E g=some true:=by exact rfl) (j:Z3 E args.toList=some vs:=by exact rfl):
  CD P n ops ⟨some d,.call ⟨.value (.func f),args,tys⟩,ty,pos,af,g⟩ E w (OU ⟨some d,.call ⟨.value (.func f),args,tys⟩,ty,pos,af,g⟩ S w):=CD.call c e l j k m
end
def Is (c:Value):GN:=fun v _=>v=c
theorem Is.mono (c:Value):∀ v (w w':World),Ac w w'->Is c v w->Is c v w':=fun _ _ _ _ h=>h
variable {t2:TypeId}{d:Option Tmp}{cap:Nat}{k':IntKind}
def O8 (T:List (Nat×TI)):List Field->Option (List (Nat×Nat))
 | []=>some []
 | f::r=>match AG T f.type,O8 T r with
  | some ti,some ps=>some ((f.offset,ti.size)::ps)
  | _,_=>none
def ovp (E:List (Nat×Value)):List (Nat×Operand)->Option (List (Nat×Value))
 | []=>some []
 | (i,x)::r=>match ov E x,ovp E r with
  | some v,some vs=>some ((i,v)::vs)
  | _,_=>none
section
variable {P:Program}{T:List (Nat×TI)}{n:Nat}{E:List (Nat×Value)}{w:World}
theorem A6l {a:Act}(c:DM n E a):∀ (xs:List (Nat×Operand)) (vs:List (Nat×Value)),ovp E xs=some vs->xs.map (fun (i,x)=>(i,a.eval x))=vs:=by
 intro xs;induction xs with
 | nil=>intro vs h;simp only[ovp,AP]at h;subst h;rfl
 | cons p r ih =>
  obtain⟨i,x⟩:=p;intro vs h;simp only[ovp]at h;split at h
  ·rename_i v us hv d;simp only[AP]at h;subst h;simp only[Er,c.eval hv,ih us d]
  ·cases h
theorem Zf (d:Aw P T):∀ (fs:List Field) (ps:List (Nat×Nat)),O8 T fs=some ps->(fs.mapM fun f=>do Pure.pure (f.offset,<- sizeOf f.type):Sem (List (Nat×Nat))).run P w=.ok ps w:=by
 intro fs;induction fs with
 | nil=>intro ps h;simp only[O8,AP]at h;subst h;simp[go_sem]
 | cons f r ih =>
  intro ps h;simp only[O8]at h;split at h
  ·rename_i ti qs g e;simp only[AP]at h;subst h;have c:=ih qs e;simp only[PW,Bq,AK d g,Bp,AX,c]
  ·cases h
theorem A0.build (c:Aw P T) {parts:Array (Nat×Operand)}{pos:String}{fs:Array Field}{pl:List (Nat×Nat)}{ps:List (Nat×Value)}{cells:Array Value}
  (j:AG T t=some ⟨.struct fs,s1,s2,z⟩) (r:O8 T fs.toList=some pl) (u:ovp E parts.toList=some ps) (m:Instr.fill (fun i=>pl.toArray[i]?) z.cells ps=some cells) :
  A0 P n ⟨d,.build t parts,ty,pos,af,g⟩ E w (.agg cells):=by
 intro a l;obtain⟨hu,inf,o,_,_,v⟩:=c t _ j;have q:=A6l l _ _ u;have e:(parts.map fun (i,x)=>(i,a.eval x)).toList=ps:=by rw[<- q];simp
 have k:(fs.mapM fun f=>do Pure.pure (f.offset,<- sizeOf f.type):Sem (Array (Nat×Nat))).run P w=.ok pl.toArray w:=by rw[Array.mapM_eq_mapM_toList];have:=Zf (P:=P) (w:=w) c _ _ r;show ((_:Sem (List (Nat×Nat))) >>= fun x=>Pure.pure (List.toArray x)).run P w=_;simp only[Bq,this,Bp,AX]
 generalize a.eval=ρ at e;simp only[execOp,Instr.build,zeroValue,Bq,BZ o,Bp,v,AX,Ag c j,k,e,m]
theorem rB {parts:Array (Nat×Operand)}{pos:String}{fs:Array Field}{pl:List (Nat×Nat)}{ps:List (Nat×Value)}{cells:Array Value}  (c:Aw P T:=by exact A8) (l:AG T t=some ⟨.struct fs,s1,s2,z⟩:=by exact rfl) (j:O8 T fs.toList=some pl:=by exact rfl) (k:ovp E parts.toList=some ps:=by exact rfl) (e:Instr.fill (fun i=>pl.toArray[i]?) z.cells ps=some cells:=by exact rfl):
  A0 P n ⟨d,.build t parts,ty,pos,af,g⟩ E w (.agg cells):=A0.build c l j k e
def A9s (T:List (Nat×TI)) (E:List (Nat×Value)) (w:World):ResultVar->Value->Prop
 | .tmp t,v=>AR E t=some v
 | .cell a t,v=>∃ b C e ti,AR E a=some (.pointer (some ⟨b,0,none⟩))/\Aj e w b C/\AG T t=some ti/\DJ ti.desc=true/\C.length=ti.size/\v=.agg C.toArray
def A4h (T:List (Nat×TI)) (E:List (Nat×Value)) (w:World):List ResultVar->List Value->Prop
 | [],[]=>True
 | r::rs,v::vs=>A9s T E w r v/\A4h T E w rs vs
 | _,_=>False
def Zg:List Value->Value
 | [v]=>v
 | vs=>.tuple vs.toArray
def OV (tmps:Array Value):ResultVar->Sem Value
 | .tmp t=>Pure.pure (tmps.getD t undef)
 | .cell a t=>do loadVar t (<- asAddr (tmps.getD a undef))
theorem UK (fn:Func) (tmps:Array Value):results fn tmps=(do let vs <- fn.results.mapM (OV tmps);Pure.pure (if h:vs.size=1 then vs[0] else .tuple vs)):=by
 unfold results;have:(fun x=>match x with | .tmp t=>Pure.pure (tmps.getD t undef) | .cell a t=>do loadVar t (<- asAddr (tmps.getD a undef)):ResultVar->Sem Value)=OV tmps:=by funext x;cases x <;> rfl
 exact congrArg (fun f=>(do let vs <- fn.results.mapM f;Pure.pure (if h:vs.size=1 then vs[0] else .tuple vs):Sem Value)) this
theorem A6m (g:Aw P T) {a:Act}(j:DM n E a):∀ (rs:List ResultVar) (vs:List Value),A4h T E w rs vs ->
  (rs.mapM (OV a.tmps)).run P w=.ok vs w:=by
 intro rs;induction rs with
 | nil =>
  intro vs h;cases vs with
  | nil=>simp[go_sem]
  | cons _ _=>exact h.elim
 | cons r rs ih =>
  intro vs h;cases vs with
  | nil=>exact h.elim
  | cons v vs =>
   obtain⟨c,l⟩:=h;have d:=ih vs l;cases r with
   | tmp t =>
    have:a.tmps.getD t undef=v:=by simp[EK,j.slots t v c]
    simp only[PW,OV,Bq,AX,Bp,this,d]
   | cell x t =>
    obtain⟨b,C,e,ti,u,q,k,m,z,rfl⟩:=c;have:a.tmps.getD x undef=.pointer (some ⟨b,0,none⟩):=by simp[EK,j.slots x _ u]
    have f:=Kn (P:=P) q 0 ti.size 0 #[] oo;have y:(loadVar t ⟨b,0,none⟩).run P w=.ok (.agg C.toArray) w:=by unfold loadVar;simp only[Bq,FH g k,m,Bp,if_true,AK g k,loadCells,f,AX];congr 2;simp[<- z]
    have o:(asAddr (.pointer (some ⟨b,0,none⟩))).run P w=.ok ⟨b,0,none⟩ w:=by simp[asAddr,go_sem]
    simp only[PW,OV,Bq,this,o,AX,Bp,y,d]
theorem Ad.aC (d:Aw P T) {rs:List ResultVar}(vs:List Value) (e:fn.results=rs.toArray) (h:A4h T E w rs vs) (g:Φ (Zg vs) w):Ad n E w .ret (bodyPost P fn (AJ Φ)):=by
 intro a c;refine bodyPost_ret (v:=Zg vs) ?_ c.defers ⟨_,rfl,g⟩;rw[UK,e,Array.mapM_eq_mapM_toList];have:=A6m (P:=P) (w:=w) d c rs vs h;show (((rs.mapM (OV a.tmps):Sem (List Value)) >>= fun x=>Pure.pure (List.toArray x)) >>= _).run P w=_;simp only[Bq,this,Bp,AX];congr 1;match vs with
 | []=>rfl
 | [v]=>rfl
 | v::u::r =>
  simp[Zg]
theorem A0.shl {y:Operand}{pos:String}{k:IntKind}{m s:Int}(j:Nat) (q:ov E x=some (.int k m)) (r:ov E y=some (.int k' s)) (l:s=j) (e:j<=k.bits) :
  A0 P n ⟨d,.binOp .shl t x y t2,ty,pos,af,g⟩ E w (.int k (k.wrap (m * 2 ^ j))):=by
 intro a c;have e1:=c.eval q;have e2:=c.eval r;generalize a.eval=ρ at e1 e2;subst l;have en:¬ ((j:Int)<0):=by omega
 have o:Op.shift .shl k m k' (j:Int)=Pure.pure (.int k (k.wrap (m * 2 ^ j))):=by unfold Op.shift;rw[if_neg en];simp only[Cj,H8 e]
 simp only[execOp,e1,e2,eqGuard,binOp,o];simp[go_sem]
theorem A0.shr {y:Operand}{pos:String}{k:IntKind}{m s:Int}(j:Nat) (r:ov E x=some (.int k m)) (u:ov E y=some (.int k' s)) (o:s=j) (e:j<=k.bits) :
  A0 P n ⟨d,.binOp .shr t x y t2,ty,pos,af,g⟩ E w (.int k (m / 2 ^ j)):=by
 intro a c;have e1:=c.eval r;have e2:=c.eval u;generalize a.eval=ρ at e1 e2;subst o;have en:¬ ((j:Int)<0):=by omega
 have l:(0:Int)<=2 ^ j:=LA (Int.pow_pos de);have q:Op.shift .shr k m k' (j:Int)=Pure.pure (.int k (m / 2 ^ j)):=by unfold Op.shift;rw[if_neg en];simp only[Cj,H8 e,Int.fdiv_eq_ediv_of_nonneg _ l]
 simp only[execOp,e1,e2,eqGuard,binOp,q];simp[go_sem]
theorem A0.quo {y:Operand}{pos:String}{k:IntKind}{m s:Int}(o:ov E x=some (.int k m)) (q:ov E y=some (.int k s)) (e:0<=m) (r:0<s) :
  A0 P n ⟨d,.binOp .quo t x y t2,ty,pos,af,g⟩ E w (.int k (k.wrap (m / s))):=by
 intro a c;have e1:=c.eval o;have e2:=c.eval q;generalize a.eval=ρ at e1 e2;have j:¬ s=0:=by omega
 have l:m.tdiv s=m / s:=Int.tdiv_eq_ediv_of_nonneg e;simp[execOp,e1,e2,eqGuard,binOp,Op.intDiv,j,l,go_sem]
theorem A0.rem {y:Operand}{pos:String}{k:IntKind}{m s:Int}(o:ov E x=some (.int k m)) (q:ov E y=some (.int k s)) (e:0<=m) (r:0<s) :
  A0 P n ⟨d,.binOp .rem t x y t2,ty,pos,af,g⟩ E w (.int k (m % s)):=by
 intro a c;have e1:=c.eval o;have e2:=c.eval q;generalize a.eval=ρ at e1 e2;have j:¬ s=0:=by omega
 have l:m.tmod s=m % s:=Int.tmod_eq_emod_of_nonneg e;simp[execOp,e1,e2,eqGuard,binOp,Op.intDiv,j,l,go_sem]
theorem A0.dP (c:Aw P T) {pos:String}{p:Option Addr}{len:Nat}(e:AG T t=some ⟨.slice et,s1,s2,z⟩) (l:ov E x=some (.slice p len cap)) :
  A0 P n ⟨d,.binOp .eql t x (.const (.slice none 0 0)) t2,ty,pos,af,g⟩ E w (.bool p.isNone):=by
 intro a j;have e1:=j.eval l;have e2:a.eval (.const (.slice none 0 0))=.slice none 0 0:=rfl;generalize a.eval=ρ at e1 e2;have hu:=(c t _ e).1;have k:(Op.equal t (.slice p len cap) (.slice none 0 0)).run P w=.ok p.isNone w:=by
  show (Op.equalIn (9999+1) t _ _).run P w=_;unfold Op.equalIn;cases p with
  | none=>simp only[Bq,Ag c e,Bp,AX,Option.isNone_none]
  | some a0=>simp only[Bq,Ag c e,Bp,AX,Option.isNone_some]
 simp only[execOp,e1,e2,eqGuard,binOp,Bq,AX];simp only[PX,Hg,if_false,AX,Bp,k]
theorem Av.pair (c:Aw P T) {y:Operand}{pos:String}{k:IntKind}{m m':Int}
  (v:AG T t=some ⟨.slice et,s1,s2,z⟩) (j:AG T et=some ti) (r:ti.size=1) (b:ov E x=some (.int k m)) (f:ov E y=some (.int k' m')) :
  Av P n ⟨d,.buildSlice t 2 #[(0,x),(1,y)],ty,pos,af,g⟩ E w (fun u w'=>u=.slice (some ⟨w.heap.size,0,none⟩) 2 2/\Aj et w' w.heap.size [.int k m,.int k' m']/\Ac w w'/\w'.heap.size=w.heap.size+1):=by
 intro a e Q K l;obtain⟨_,inf,o,p,i,h⟩:=c et ti j;have e1:=e.eval b;have e2:=e.eval f;have q:(execOp a.eval ⟨d,.buildSlice t 2 #[(0,x),(1,y)],ty,pos,af,g⟩).run P w=.ok (.value (.slice (some ⟨w.heap.size,0,none⟩) 2 2)) (w.alloc (.cells #[.int k m,.int k' m'] et (0,0))):=by generalize a.eval=ρ at e1 e2;simp[execOp,Instr.buildSlice,e1,e2,Ag c v,AK c j,r,zeroValue,BZ o,h,Instr.fill,newRow,go_sem]
 unfold Oper.wp;rw[q,Oper.upon_value];exact l _ _ ⟨rfl,DN _ _ _,Da _ _,Dc _ _⟩
theorem Av.empty (c:Aw P T) {pos:String}
  (k:AG T t=some ⟨.slice et,s1,s2,z⟩) (l:AG T et=some ti) :
  Av P n ⟨d,.buildSlice t 0 #[],ty,pos,af,g⟩ E w (fun u w'=>u=.slice (some ⟨w.heap.size,0,none⟩) 0 0/\Aj et w' w.heap.size []/\Ac w w'/\w'.heap.size=w.heap.size+1):=by
 intro a m Q K e;have j:(execOp a.eval ⟨d,.buildSlice t 0 #[],ty,pos,af,g⟩).run P w=.ok (.value (.slice (some ⟨w.heap.size,0,none⟩) 0 0)) (w.alloc (.cells #[] et (0,0))):=by simp[execOp,Instr.buildSlice,Ag c k,AK c l,Instr.fill,newRow,go_sem]
 unfold Oper.wp;rw[j,Oper.upon_value];exact e _ _ ⟨rfl,DN _ _ _,Da _ _,Dc _ _⟩
end
variable {b off:Nat}{C:List Value}
section lists
variable {P:Program}{T:List (Nat×TI)}{n:Nat}{E:List (Nat×Value)}{w:World}{Q:Exit->Act->World->Prop}{ops:Array Oper}{rest:List Oper}
theorem Af.br (d:Aw P T) {u:TypeId}{i:Operand}{pos:String}{len:Nat}{k:IntKind}(j:Nat) (c:Value)
  (m:Aj et w b C) (o:C[off+j]?=some c) (B:iv=j) (D:j<len)
  (s:AG T t=some ⟨.slice et,s1,s2,z⟩) (e:AG T et=some ti) (h:ti.size=1) (l:DJ ti.desc=false) (hu:u=et)
  (A:ov E x=some (.slice (some ⟨b,off,none⟩) len cap)) (v:ov E i=some (.int k iv)) (q:Bg ops E g=some true) (a:Nat.blt d1 n=true) (f:Nat.blt d2 n=true) (r:∀ p,Bg ops ((d1,p)::E) g2=some true)
  (next:∀ p,Af P n ((d2,c)::(d1,p)::E) w ops rest Q) :
  Af P n E w ops (⟨some d1,.indexAddr t x i,ty,pos,af,g⟩::⟨some d2,.load u (.tmp d1),ty2,pos2,af2,g2⟩::rest) Q:=by subst hu;refine Af.step rfl q a (A0.indexAddr d s e h A v oo oo).op ?_;rintro p w' ⟨rfl,rfl⟩;rw[show iv.toNat=j from by omega,Ak];have y:ov ((d1,.pointer (some ⟨b,off+j,none⟩))::E) (.tmp d1)=some (.pointer (some ⟨b,off+j,none⟩)):=AF _ _ _;refine Af.step rfl (r _) f (A0.load d e l y (m.cell o)).op ?_;rintro c' w' ⟨rfl,rfl⟩;exact next _
theorem QL.br (d:Aw P T) {u:TypeId}{i:Operand}{pos:String}{len:Nat}{k:IntKind}(j:Nat) (c:Value)
  (o:Aj et w b C) (q:C[off+j]?=some c) (D:iv=j) (F:j<len)
  (A:AG T t=some ⟨.slice et,s1,s2,z⟩) (e:AG T et=some ti) (s:ti.size=1) (l:DJ ti.desc=false) (hu:u=et)
  (B:ov E x=some (.slice (some ⟨b,off,none⟩) len cap)) (y:ov E i=some (.int k iv)) (r:Bg ops E g=some true) (f:Nat.blt d1 n=true) (h:Nat.blt d2 n=true) (v:∀ p,Bg ops ((d1,p)::E) g2=some true)
  (next:∀ p,QL P n ((d2,c)::(d1,p)::E) w ops rest Q) :
  QL P n E w ops (⟨some d1,.indexAddr t x i,ty,pos,af,g⟩::⟨some d2,.load u (.tmp d1),ty2,pos2,af2,g2⟩::rest) Q:=by subst hu;refine QL.step rfl r f (fun m=>A0.indexAddr d A e s B y oo oo) ?_;rw[show iv.toNat=j from by omega,Ak];have a:ov ((d1,.pointer (some ⟨b,off+j,none⟩))::E) (.tmp d1)=some (.pointer (some ⟨b,off+j,none⟩)):=AF _ _ _;exact QL.step rfl (v _) h (fun m=>A0.load d e l a ((o.drewN m).cell q)) (next _)
end lists
variable {base k base':Nat}{w':World}{e:TypeId}{xs:List Nat}
def Ei (base:Nat) (w:World) (v:Value) (xs:List Nat):Prop:=Gh base 109 w v (xs.map Dr)/\EB xs
theorem Ei.sl {w:World}{v:Value}(h:Ei base w v xs):Sl w v xs:=⟨Gh.row h.1,h.2⟩
theorem Ei.ext {w:World}{v:Value}(h:Ei base w v xs) (c:Ac w w'):Ei base w' v xs:=⟨Gh.ext h.1 c,h.2⟩
theorem Ei.nil (base:Nat) (w:World):Ei base w (.slice none 0 0) []:=⟨Gh.nil _ _ _,EB.nil⟩
theorem Ei.mono {w:World}{v:Value}(h:Ei base w v xs) (c:base'<=base):Ei base' w v xs:=by
 refine⟨⟨h.1.1,?_⟩,h.2⟩;rcases h.1.2 with h0 | ⟨g,cap,cur,hv,hg,r⟩
 ·exact .inl h0
 ·exact .inr ⟨g,cap,cur,hv,Ar c hg,r⟩
theorem Gh.cut {w:World}{v:Value}(h:Gh base e w v cs) (k:Nat) (c:k<=cs.length):Gh base e w (Qa v k) (cs.take k):=by
 have e1:(cs.take k).length=k:=by simp;omega
 refine⟨by simp,?_⟩;rw[e1];rcases h.2 with ⟨hv,h0⟩ | ⟨g,cap,cur,hv,hg,hh,hn,hm,hs,ht⟩
 ·have:k=0:=by omega
  subst this;exact .inl ⟨by rw[hv];rfl,rfl⟩
 ·refine .inr ⟨g,cap,cur,by rw[hv];rfl,hg,hh,by omega,hm,hs,?_⟩;rw[<- ht];simp[List.take_take,H8 c]
theorem Ei.cut {w:World}{v:Value}(h:Ei base w v xs) (k:Nat) (c:k<=xs.length):Ei base w (Qa v k) (xs.take k):=by refine⟨?_,h.2.take k⟩;have:=Gh.cut h.1 k (by simpa using c);rwa [<- PU]at this
theorem OW (h:EB xs):Ae (Ah xs)=xs.take (Ae (Ah xs)).length:=by
 have key:∀ k,k<=xs.length->(∀ j,k<=j->j<xs.length->xs[j]?=some 0)->∃ k',Ae (Ah xs)=xs.take k'/\k'<=xs.length:=by
  intro k;induction k with
  | zero=>intro c d;exact⟨0,HZ xs h 0 d c (.inl rfl),c⟩
  | succ k ih =>
   intro c d;have g:xs[k]?=some xs[k]:=by simp
   generalize xs[k]=x at g;by_cases l:x=0
   ·subst l;refine ih oo fun j o m=>?_;by_cases e:j=k
    ·subst e;exact g
    ·exact d j oo m
   ·exact⟨k+1,HZ xs h (k+1) d c (.inr ⟨x,by simpa using g,l⟩),c⟩
 obtain⟨k,c,q⟩:=key xs.length AO (fun j o m=>by omega);conv=>lhs;rw[c]
 rw[c];simp[H8 q]
theorem Ei.trimmed {w:World}{v:Value}(h:Ei base w v xs):Ei base w (Qa v (Ae (Ah xs)).length) (Ae (Ah xs)):=by have:=h.cut (Ae (Ah xs)).length (Ap _ h.2);rwa [<- OW h.2]at this
def FM (neg:Bool) (sl:Value):Value:=.agg #[.bool neg,sl]
theorem A0O (w:World) (neg:Bool) (sl:Value) (xs:List Nat) (h:Sl w sl xs) (l:xs.length<=1000000000) :
  Calls prog 70 #[.bool neg,sl] w (AJ fun r w'=>Ac w w'/\r=if xs=[] then FM false (.slice none 0 0) else FM neg sl):=by
 obtain⟨p,cap,rfl,k⟩:=h.form;refine cS func70 ntmps70 ?_;refine Nv ?_;refine .s (oA) ?_;rintro _ w1 ⟨rfl,g,j,_⟩;refine Nv ?_;by_cases c:xs=[]
 ·subst c;refine .a 3 (.bool true) rfl rfl ?_;refine Nv ?_;refine .cT ?_;refine Nv ?_;refine .p (rB) ?_;refine Af.step0 rfl rfl (Av.store A8 (vs:=[.bool false,.slice none 0 0]) rfl rfl rfl rfl rfl g AO (by simp[Value.oneCell'])) ?_;rintro _ w2 ⟨d,hu⟩;refine Nv ?_;exact Ad.aC A8 [FM false (.slice none 0 0)] rfl ⟨⟨_,_,_,_,rfl,d,rfl,rfl,rfl,rfl⟩,trivial⟩ ⟨j.aj hu AO,by simp[Zg]⟩
 ·have m:xs.length≠0:=fun e=>c (FA e);refine .a 3 (.bool false) rfl (by simp;omega) ?_;refine Nv ?_;refine .cF ?_;refine Nv ?_;refine .r rfl ?_;refine .p (rB) ?_;refine Af.step0 rfl rfl (Av.store A8 (vs:=[.bool neg,.slice p xs.length cap]) rfl rfl rfl rfl rfl g AO (by simp[Value.oneCell'])) ?_;rintro _ w2 ⟨d,hu⟩;refine Nv ?_;exact Ad.aC A8 [FM neg (.slice p xs.length cap)] rfl ⟨⟨_,_,_,_,rfl,d,rfl,rfl,rfl,rfl⟩,trivial⟩ ⟨j.aj hu AO,by simp[Zg,c]⟩
theorem Ey (w:World) (m:Nat) (e:m<18446744073709551616) :
  Calls prog 73 #[.int .u64 m] w (AJ fun r w'=>Ac w w'/\Ei w.heap.size w' r (Ae m)):=by
 refine cS func73 ntmps73 ?_;refine A7 ?_;refine .s (Av.pair A8 rfl rfl rfl rfl rfl) ?_;rintro _ w1 ⟨rfl,d,g,_⟩;have e1:IntKind.u32.wrap (m:Int)=((m % 4294967296:Nat):Int):=by rw[CJ];omega
 have e2:IntKind.u32.wrap ((m:Int) / 2 ^ 32)=((m / 4294967296 % 4294967296:Nat):Int):=by rw[CJ];omega
 rw[e1,e2]at d;have c:Ei w.heap.size w1 (.slice (some ⟨w.heap.size,0,none⟩) 2 2) [m % 4294967296,m / 4294967296 % 4294967296] :=
  ⟨Aj.own d rfl AO de,A2f m e⟩
 refine .s (oK AB (BN w1 _ _ c.sl sm)) ?_;rintro r w2 ⟨rfl,rfl,_⟩;refine A7 ?_;refine uR ⟨g,?_⟩;have:=c.trimmed;rw[XB m e]at this ⊢;exact this
theorem Az {x:Nat}(d:xs[k]?=some x):Ah (xs.take (k+1))=Ah (xs.take k)+x * 4294967296 ^ k:=by
 have c:k<xs.length:=(Au.1 d).1;rw[DA c,FI];have:xs[k]=x:=by rw[DH c]at d;exact Ir d
 simp[Ah,this,H8 (NQ c),AQ]
theorem I7 (w:World) (v:Value) (xs:List Nat) (h:Sl w v xs) (m:xs.length<=2) :
  Calls prog 117 #[v] w (AJ fun r w'=>w'=w/\r=.int .u64 (Ah xs)):=by
 obtain⟨p,cap,rfl,j⟩:=h.form;refine cS func117 ntmps117 ?_;refine A7 ?_;refine St.loop (fun k:Nat=>[(0,.slice p xs.length cap),(3,.int .u64 (Ah (xs.take k))),(6,.slice p xs.length cap),(7,.int .i64 xs.length),(8,.int .i64 k)]) (fun k w'=>w'=w/\k<=xs.length) (fun k=>xs.length - k) 0 ⟨rfl,rfl,rfl,rfl,rfl,trivial⟩ ⟨rfl,by omega⟩ ?_;rintro k w' ⟨rfl,l⟩;by_cases o:k<xs.length
 ·have c:xs[k]?=some xs[k]:=by simp
  generalize xs[k]=x at c;have u:=h.2.get c;have hv:=Fm (xs.take k) (h.2.take k);have q:=Ew (h.2.take (k+1)) (by simp;omega);have d:=Az c;refine Nv ?_;refine .a 1 (.bool true) rfl (Aa oo) ?_;refine Nv ?_;refine .ct ?_;refine Af.elem A8 k (Dr x) h.1 (h.get c) rfl rfl rfl rfl rfl rfl rfl rfl rfl rfl rfl (fun _=>rfl) ?_;intro p1;refine A7 ?_;refine .p (A0.shl (32 * k) rfl rfl (by rw[Ab oo oo];omega) (by show 32 * k<=64;omega)) ?_;have e0:(4294967296:Nat) ^ k=2 ^ (32 * k):=by rw[LJ]
  have g:(xs.take k).length=k:=by simp;omega
  rw[g,e0]at hv;rw[e0]at d;have e1:IntKind.u64.wrap (IntKind.u64.wrap (x:Int) * 2 ^ (32 * k))=((x * 2 ^ (32 * k):Nat):Int):=by
   rw[BG (n:=(x:Int)) oo oo,BG]
   ·simp
   ·exact DI oo (LA (Int.pow_pos de))
   ·have:(x:Int) * 2 ^ (32 * k)=((x * 2 ^ (32 * k):Nat):Int):=by simp
    omega
  rw[e1];refine .a 1 (.int .u64 (Ah (xs.take (k+1)))) rfl ?_ ?_
  ·rw[Pb _ _ oo oo,Rl _ _ _ hv,d]
  refine A7 ?_;refine Ad.again (k+1) ⟨rfl,rfl,rfl,rfl,?_,trivial⟩ ⟨rfl,by omega⟩ oo;show some (Value.int .i64 (IntKind.i64.wrap ((k:Int)+1)))=_;rw[Ab oo oo];rfl
 ·have e:k=xs.length:=by omega
  refine Nv ?_;refine .a 1 (.bool false) rfl (A9 oo) ?_;refine Nv ?_;refine .cf ?_;refine Ad.ax rfl rfl ⟨rfl,?_⟩;rw[e,D5]
theorem Qq {xs ys:List Nat}{k x:Nat}(c:xs[k]?=some x) (d:ys[k]?=some x) (h:xs.drop (k+1)=ys.drop (k+1)):xs.drop k=ys.drop k:=by have e:k<xs.length:=(Au.1 c).1;have g:k<ys.length:=(Au.1 d).1;rw[DH e]at c;rw[DH g]at d;rw[ED e,ED g,Ir c,Ir d,h]
theorem UL (w:World) (p q:Option Addr) (c d:Nat) (xs ys:List Nat) (h:Sl w (.slice p xs.length c) xs) (k:Sl w (.slice q ys.length d) ys) (C:xs.length<=1000000000) (B:ys.length<=1000000000)
  (R:Int) (e:R=if xs.length<ys.length then -1 else if ys.length<xs.length then 1 else GY (Ah xs) (Ah ys)) :
  Calls prog 68 #[.slice p xs.length c,.slice q ys.length d] w (AJ fun r w'=>Ac w w'/\r=.int .i64 R):=by
 refine cS func68 ntmps68 ?_;refine A7 ?_;by_cases z:xs.length<ys.length
 ·rw[if_pos z]at e;refine St.aD rfl (by simp;omega) ?_;refine A7 ?_;exact Ad.ax rfl rfl ⟨Ac.refl _,by rw[e]⟩
 rw[if_neg z]at e;refine St.ay rfl (by simp;omega) ?_;refine A7 ?_;by_cases t:ys.length<xs.length
 ·rw[if_pos t]at e;refine St.aD rfl (by simp;omega) ?_;refine A7 ?_;exact Ad.ax rfl rfl ⟨Ac.refl _,by rw[e]⟩
 rw[if_neg t]at e;have v:xs.length=ys.length:=by omega
 refine St.ay rfl (by simp;omega) ?_;refine A7 ?_;refine St.loop (fun j:Nat=>[(0,.slice p xs.length c),(1,.slice q ys.length d),(5,.int .i64 ((j:Int) - 1))]) (fun j w'=>Ac w w'/\j<=xs.length/\xs.drop j=ys.drop j) (fun j=>j) xs.length ⟨rfl,rfl,?_,trivial⟩ ⟨Ac.refl _,by omega,?_⟩ ?_
 ·show some (Value.int .i64 (IntKind.i64.wrap ((xs.length:Int) - 1)))=_;rw[Ab oo oo]
 ·rw[Kj,v,Kj]
 rintro j w' ⟨g,A,u⟩;have o:=h.ext g;have hB:=k.ext g;by_cases b:j=0
 ·subst b;refine Nv ?_;refine .a 2 (.bool false) rfl (A9 oo) ?_;refine Nv ?_;refine .cf ?_;have:xs=ys:=by simpa using u
  subst this;exact Ad.ax rfl rfl ⟨g,by rw[e];simp[GY]⟩
 ·obtain⟨i,rfl⟩:∃ i,j=i+1:=⟨j - 1,by omega⟩;have l:xs[i]?=some xs[i]:=by simp
  generalize xs[i]=x at l;have m:ys[i]?=some ys[i]:=by simp
  generalize ys[i]=y at m;have e0:(((i+1:Nat):Int) - 1)=(i:Int):=by omega
  rw[e0];refine Nv ?_;refine .a 2 (.bool true) rfl (Aa oo) ?_;refine Nv ?_;refine .cT ?_;refine Nv ?_;refine St.quiet Dv kr ?_;refine .run A8 99 rfl ?_;refine QL.elem A8 i (Dr x) o.1 (o.get l) rfl rfl rfl rfl rfl rfl rfl rfl rfl rfl rfl (fun _=>rfl) ?_;intro p1;refine .run A8 99 rfl ?_;refine QL.elem A8 i (Dr y) hB.1 (hB.get m) rfl rfl rfl rfl rfl rfl rfl rfl rfl rfl rfl (fun _=>rfl) ?_;intro p2;refine .run A8 99 rfl ?_;refine QL.nil fun m1=>?_;refine Nv ?_;by_cases f:x<y
  ·refine St.aD rfl (by simp;omega) ?_;refine A7 ?_;have:=O6 xs ys h.2 v i x y l m f u;exact Ad.ax rfl rfl ⟨g.drewN _,by rw[e];simp[GY,this]⟩
  refine St.ay rfl (by simp;omega) ?_;refine Nv ?_;refine St.quiet Dv kr ?_;refine .run A8 99 rfl ?_;refine QL.elem A8 i (Dr x) (o.drewN m1).1 (o.get l) rfl rfl rfl rfl rfl rfl rfl rfl rfl rfl rfl (fun _=>rfl) ?_;intro p3;refine .run A8 99 rfl ?_;refine QL.elem A8 i (Dr y) (hB.drewN m1).1 (hB.get m) rfl rfl rfl rfl rfl rfl rfl rfl rfl rfl rfl (fun _=>rfl) ?_;intro D;refine .run A8 99 rfl ?_;refine QL.nil fun m2=>?_;refine Nv ?_;by_cases s:y<x
  ·refine St.aD rfl (by simp;omega) ?_;refine A7 ?_;have:=O6 ys xs k.2 v.symm i y x m l s u.symm;exact Ad.ax rfl rfl ⟨(g.drewN _).drewN _,by rw[e];unfold GY;rw[if_neg oo,if_pos this]⟩
  have n:x=y:=by omega
  subst n;refine St.ay rfl sm ?_;refine A7 ?_;refine Ad.again i ⟨rfl,rfl,?_,trivial⟩ ⟨(g.drewN _).drewN _,by omega,Qq l m u⟩ oo;show some (Value.int .i64 (IntKind.i64.wrap ((i:Int) - 1)))=_;rw[Ab oo oo]
theorem Jd (w:World) (u v:Value) (a b:Nat) (h:Sl w u (Ae a)) (k:Sl w v (Ae b)) (l:(Ae a).length<=1000000000) (j:(Ae b).length<=1000000000) :
  Calls prog 68 #[u,v] w (AJ fun r w'=>Ac w w'/\r=.int .i64 (GY a b)):=by
 obtain⟨p,c,rfl,_⟩:=h.form;obtain⟨q,d,rfl,_⟩:=k.form;refine UL w p q c d _ _ h k l j _ ?_;rw[Al,Al];split
 ·rename_i e;have:=ES e;simp[GY,this]
 ·split
  ·rename_i _ g;have:=ES g;unfold GY;rw[if_neg oo,if_pos this]
  ·rfl
theorem M3 (w:World) (v:Value) (xs:List Nat) (h:Sl w v xs) (u:xs.length<=1000000000) :
  Calls prog 72 #[v] w (AJ fun r w'=>Ac w w'/\Ei w.heap.size w' r xs):=by
 obtain⟨p,cap,rfl,q⟩:=h.form;refine cS func72 ntmps72 ?_;refine A7 ?_;refine .p (A0.dP A8 rfl rfl) ?_;refine Nv ?_;cases p with
 | none =>
  have j:xs=[]:=by simpa using Jk.dO h.1
  subst j;refine .ct ?_;exact uR ⟨Ac.refl _,Ei.nil _ _⟩
 | some a0 =>
  refine .cF ?_;refine Nv ?_;refine .s (Av.empty A8 rfl rfl) ?_;rintro _ w1 ⟨rfl,l,g,y⟩;refine .r rfl ?_;have e:Gh w.heap.size 109 w1 (.slice (some ⟨w.heap.size,0,none⟩) 0 0) []:=Aj.own l rfl AO de;have k:=h.ext g;refine .s (Av.append A8 rfl rfl rfl rfl rfl rfl e k.1 (by intro c d;simp at d;obtain⟨x,_,rfl⟩:=d;rfl) (by simp;omega) (by simp;omega) oo) ?_;rintro r w2 ⟨o,m,_⟩;refine A7 ?_;exact Ad.ax rfl rfl ⟨g.grown e AO m,by simpa using o,h.2⟩
theorem Wn {us:List Nat}{k:Nat}(h:k<us.length) (v:Nat):(us.set k v).take (k+1)=us.take k++[v]:=by rw[DA (by simpa using h)];simp[List.take_set_of_le]
theorem Cs {us:List Nat}{k:Nat}(h:k<us.length) (v:Nat):Ah ((us.set k v).take (k+1))=Ah (us.take k)+v * 4294967296 ^ k:=by rw[Wn h,FI];simp[Ah,H8 (NQ h),AQ]
theorem Qr (S X Y D c x y v c':Nat) (h:S+c * D=X+Y) (hv:c+x+y=v+c' * 4294967296):(S+v * D)+c' * (D * 4294967296)=(X+x * D)+(Y+y * D):=by
 have d:=congrArg (· * D) hv;simp only[Bw]at d;have e:c' * 4294967296 * D=c' * (D * 4294967296):=by rw[Bb,AQ 4294967296]
 omega
theorem CA (us:List Nat) (k v:Nat):(us.map Dr).set k (Dr v)=(us.set k v).map Dr:=by simp
theorem DL (k:Nat):EB (List.replicate k 0):=fun x c=>by have:=BU c;omega
theorem Sv (w:World) (u v:Value) (xs ys:List Nat) (h:Sl w u xs) (k:Sl w v ys) (G:xs.length<=100000000) (F:ys.length<=100000000) :
  Calls prog 172 #[u,v] w (AJ fun r w'=>Ac w w'/\Ei w.heap.size w' r (Ae (Ah xs+Ah ys))):=by
 refine cS func172 ntmps172 ?_;refine St.seq (St.region (Af.run A8 99 rfl (Af.nil (Ad.ak ?_))));refine St.cut (fun g:(Value×Value)×List Nat×List Nat=>[(0,g.1.1),(1,g.1.2)]) (fun g w'=>w'=w/\Sl w g.1.1 g.2.1/\Sl w g.1.2 g.2.2/\g.2.1.length<=100000000/\g.2.2.length<=g.2.1.length/\Ah xs+Ah ys=Ah g.2.1+Ah g.2.2) ?_ ?_
 ·obtain⟨p,c,rfl,_⟩:=h.form;obtain⟨q,d,rfl,_⟩:=k.form;refine A7 ?_;by_cases P:xs.length<ys.length
  ·refine St.aD rfl (by simp;omega) ?_;refine Nv ?_;refine .r rfl ?_;refine Af.nil (Ad.met ((_,_),ys,xs) ⟨rfl,rfl,trivial⟩ ⟨rfl,k,h,F,by simp;omega,FD _ _⟩)
  ·refine St.ay rfl (by simp;omega) ?_;refine St.skip (Ad.met ((_,_),xs,ys) ⟨rfl,rfl,trivial⟩ ⟨rfl,h,k,G,by simp;omega,rfl⟩)
 rintro⟨⟨u',v'⟩,xs',ys'⟩ w' ⟨rfl,f,k',J,K,H⟩;rw[H];clear H h k G F xs ys u v;simp only at f k' J K;obtain⟨p,c,rfl,_⟩:=f.form;obtain⟨q,d,rfl,_⟩:=k'.form;refine A7 ?_;refine .s (Av.make A8 (xs'.length+1) rfl rfl rfl rfl rfl (by rw[Ab oo oo];omega) rfl (by rw[Ab oo oo];omega) (by simp;omega) oo) ?_;rintro _ w1 ⟨rfl,I,M,_⟩;refine A7 ?_;refine St.loop (fun g:Nat×Nat×List Nat=>[(0,.slice p xs'.length c),(1,.slice q ys'.length d),(5,.slice (some ⟨w'.heap.size,0,none⟩) (xs'.length+1) (xs'.length+1)),(6,.int .u64 g.2.1),(21,.int .i64 ys'.length),(22,.int .i64 g.1)])
  (fun g w2=>Ac w' w2/\Aj 109 w2 w'.heap.size (g.2.2.map Dr)/\g.2.2.length=xs'.length+1/\EB g.2.2/\g.2.1<=1/\g.1<=ys'.length/\Ah (g.2.2.take g.1)+g.2.1 * 4294967296 ^ g.1=Ah (xs'.take g.1)+Ah (ys'.take g.1))
  (fun g=>ys'.length - g.1) (0,0,List.replicate (xs'.length+1) 0) ⟨rfl,rfl,rfl,rfl,rfl,rfl,trivial⟩ ⟨M,by rw[G9];exact I,by simp,DL _,by simp,by simp,by simp[Ah]⟩ ?_
 rintro⟨j,cy,us⟩ w2 ⟨l,o,t,b,n,A,e⟩;simp only at o t b n A e;have i:=f.ext l;have hB:=k'.ext l;by_cases D:j<ys'.length
 ·have m:xs'[j]?=some xs'[j]:=by simp
  generalize xs'[j]=x at m;have C:ys'[j]?=some ys'[j]:=by simp
  generalize ys'[j]=y at C;have O:=f.2.get m;have R:=k'.2.get C;refine Nv ?_;refine .a 1 (.bool true) rfl (Aa oo) ?_;refine Nv ?_;refine .cT ?_;refine Nv ?_;refine .r rfl ?_;refine Nv ?_;refine St.quiet Dv kr ?_;refine .run A8 99 rfl ?_;refine QL.elem A8 j (Dr x) i.1 (i.get m) rfl rfl rfl rfl rfl rfl rfl rfl rfl rfl rfl (fun _=>rfl) ?_;intro p1;refine .run A8 99 rfl ?_;refine QL.elem A8 j (Dr y) hB.1 (hB.get C) rfl rfl rfl rfl rfl rfl rfl rfl rfl rfl rfl (fun _=>rfl) ?_;intro p2;refine .run A8 99 rfl ?_;refine QL.nil fun m1=>?_;have e1:IntKind.u64.wrap ((cy:Int)+IntKind.u64.wrap (IntKind.u64.wrap (x:Int)+IntKind.u64.wrap (y:Int)))=((cy+x+y:Nat):Int):=by simp only[Cz];omega
  rw[e1];refine A7 ?_;have e2:IntKind.u32.wrap ((cy+x+y:Nat):Int)=(((cy+x+y) % 4294967296:Nat):Int):=by rw[CJ];omega
  refine Af.put A8 j (o.drewN m1) rfl oo (by simp;omega) rfl rfl rfl rfl rfl rfl rfl rfl (fun _=>rfl) (fun _=>rfl) rfl rfl ?_;intro p3 w3 z B;rw[e2,AE,CA]at z;refine A7 ?_;refine Ad.again (j+1,(cy+x+y) / 4294967296,us.set j ((cy+x+y) % 4294967296)) ⟨rfl,rfl,rfl,?_,rfl,?_,trivial⟩ ⟨(l.drewN m1).aj B AO,z,by simpa using t,b.set _ oo,by simp only;omega,by simp only;omega,?_⟩ (by simp only;omega)
  ·show some (Value.int .u64 (((cy+x+y:Nat):Int) / 2 ^ 32))=some (Value.int .u64 (((cy+x+y) / 4294967296:Nat):Int));rw[show ((cy+x+y:Nat):Int) / 2 ^ 32=(((cy+x+y) / 4294967296:Nat):Int) from by omega]
  ·show some (Value.int .i64 (IntKind.i64.wrap ((j:Int)+1)))=_;rw[Ab oo oo];rfl
  ·simp only;rw[Cs oo,Az m,Az C,Ck];exact Qr _ _ _ _ _ _ _ _ _ e oo
 obtain rfl:j=ys'.length:=by omega
 rw[D5]at e;clear D A;refine Nv ?_;refine .a 1 (.bool false) rfl (A9 oo) ?_;refine Nv ?_;refine .cf ?_;refine St.loop (fun g:Nat×Nat×List Nat=>[(0,.slice p xs'.length c),(1,.slice q ys'.length d),(5,.slice (some ⟨w'.heap.size,0,none⟩) (xs'.length+1) (xs'.length+1)),(6,.int .u64 g.2.1),(50,.int .i64 ((xs'.length - ys'.length:Nat):Int)),(51,.int .i64 g.1)])
  (fun g w2=>Ac w' w2/\Aj 109 w2 w'.heap.size (g.2.2.map Dr)/\g.2.2.length=xs'.length+1/\EB g.2.2/\g.2.1<=1/\g.1<=xs'.length - ys'.length/\Ah (g.2.2.take (ys'.length+g.1))+g.2.1 * 4294967296 ^ (ys'.length+g.1)=Ah (xs'.take (ys'.length+g.1))+Ah ys')
  (fun g=>xs'.length - ys'.length - g.1) (0,cy,us) ⟨rfl,rfl,rfl,rfl,?_,rfl,trivial⟩ ⟨l,o,t,b,n,by simp,e⟩ ?_
 ·show some (Value.int .i64 (IntKind.i64.wrap ((xs'.length:Int) - (ys'.length:Int))))=_;rw[Ab oo oo];rw[show ((xs'.length:Int) - (ys'.length:Int))=((xs'.length - ys'.length:Nat):Int) from by omega]
 clear e l o t b n i hB us cy;rintro⟨j,cy,us⟩ w2 ⟨l,o,t,b,n,A,e⟩;simp only at o t b n A e;have i:=f.ext l;by_cases D:j<xs'.length - ys'.length
 ·have Q:ys'.length+j<xs'.length:=by omega
  have m:xs'[ys'.length+j]?=some xs'[ys'.length+j]:=by simp
  generalize xs'[ys'.length+j]=x at m;have O:=f.2.get m;have e0:IntKind.i64.wrap ((ys'.length:Int)+(j:Int))=((ys'.length+j:Nat):Int):=by rw[Ab oo oo];omega
  refine Nv ?_;refine .a 1 (.bool true) rfl (Aa oo) ?_;refine Nv ?_;refine .ct ?_;refine Af.elem A8 (ys'.length+j) (Dr x) i.1 (i.get m) e0 rfl rfl rfl rfl rfl rfl rfl rfl rfl rfl (fun _=>rfl) ?_;intro p1;have e1:IntKind.u64.wrap ((cy:Int)+IntKind.u64.wrap (x:Int))=((cy+x:Nat):Int):=by simp only[Cz];omega
  refine .a 2 (.int .u64 ((cy+x:Nat):Int)) rfl (by rw[e1]) ?_;refine A7 ?_;have e2:IntKind.u32.wrap ((cy+x:Nat):Int)=(((cy+x) % 4294967296:Nat):Int):=by rw[CJ];omega
  refine Af.put A8 (ys'.length+j) o e0 oo (by simp;omega) rfl rfl rfl rfl rfl rfl rfl rfl (fun _=>rfl) (fun _=>rfl) rfl rfl ?_;intro p3 w3 z B;rw[e2,AE,CA]at z;refine A7 ?_;refine Ad.again (j+1,(cy+x) / 4294967296,us.set (ys'.length+j) ((cy+x) % 4294967296)) ⟨rfl,rfl,rfl,?_,rfl,?_,trivial⟩ ⟨l.aj B AO,z,by simpa using t,b.set _ oo,by simp only;omega,by simp only;omega,?_⟩ (by simp only;omega)
  ·show some (Value.int .u64 (((cy+x:Nat):Int) / 2 ^ 32))=some (Value.int .u64 (((cy+x) / 4294967296:Nat):Int));rw[show ((cy+x:Nat):Int) / 2 ^ 32=(((cy+x) / 4294967296:Nat):Int) from by omega]
  ·show some (Value.int .i64 (IntKind.i64.wrap ((j:Int)+1)))=_;rw[Ab oo oo];rfl
  ·simp only;rw[<- HS,Cs oo,Az m,Ck];have:=Qr _ _ _ _ _ _ 0 _ _ e (show cy+x+0=(cy+x) % 4294967296+(cy+x) / 4294967296 * 4294967296 from by omega);simpa using this
 obtain rfl:j=xs'.length - ys'.length:=by omega
 rw[show ys'.length+(xs'.length - ys'.length)=xs'.length from by omega,D5]at e;clear D A;refine Nv ?_;refine .a 1 (.bool false) rfl (A9 oo) ?_;refine Nv ?_;refine .cf ?_;have e2:IntKind.u32.wrap (cy:Int)=(cy:Int):=Hs oo oo;refine Af.put A8 xs'.length o rfl oo (by simp;omega) rfl rfl rfl rfl rfl rfl rfl rfl (fun _=>rfl) (fun _=>rfl) rfl rfl ?_;intro S w3 z B;rw[e2,AE,CA]at z;have N:Ac w' w3:=l.aj B AO;have E:Ei w'.heap.size w3 (.slice (some ⟨w'.heap.size,0,none⟩) (xs'.length+1) (xs'.length+1)) (us.set xs'.length cy) :=
  ⟨Aj.own z (by simp[t]) AO oo,b.set _ oo⟩
 have L:Ah (us.set xs'.length cy)=Ah xs'+Ah ys':=by have:=Cs (us:=us) (k:=xs'.length) oo cy;rw[Bs (by simp;omega)]at this;omega
 refine A7 ?_;refine .s (oK AB (BN w3 _ _ E.sl (by simp;omega))) ?_;rintro r T ⟨rfl,rfl,_⟩;refine A7 ?_;refine uR ⟨N,?_⟩;have:=E.trimmed;rw[L]at this ⊢;exact this
theorem UM (xs:List Nat) (k:Nat):Ah (xs.take (k+1))=Ah (xs.take k)+xs.getD k 0 * 4294967296 ^ k:=by
 by_cases h:k<xs.length
 ·have c:xs[k]?=some xs[k]:=by simp[h]
  rw[Az c];simp[Bd,c]
 ·rw[Bs oo,Bs oo,Bd,BJ oo];simp
theorem UN {xs:List Nat}(h:EB xs) (k:Nat):xs.getD k 0<4294967296:=by
 rw[Bd];cases hx:xs[k]? with
 | none=>simp
 | some x=>simpa using h.get hx
theorem A4i (S X Y D c x y v c':Nat) (h:S+Y=X+c * D) (hv:x+c' * 4294967296=v+c+y):(S+v * D)+(Y+y * D)=(X+x * D)+c' * (D * 4294967296):=by
 have d:=congrArg (· * D) hv;simp only[Bw]at d;have e:c' * 4294967296 * D=c' * (D * 4294967296):=by rw[Bb,AQ 4294967296]
 omega
theorem N0 (w:World) (u v:Value) (xs ys:List Nat) (h:Sl w u xs) (k:Sl w v ys) (P:xs.length<=100000000) (_hl:ys.length<=100000000) (H:ys.length<=xs.length) (O:Ah ys<=Ah xs) :
  Calls prog 173 #[u,v] w (AJ fun r w'=>Ac w w'/\Ei w.heap.size w' r (Ae (Ah xs - Ah ys))):=by
 obtain⟨p,c,rfl,_⟩:=h.form;obtain⟨q,d,rfl,_⟩:=k.form;refine cS func173 ntmps173 ?_;refine A7 ?_;refine .s (Av.make A8 xs.length rfl rfl rfl rfl rfl rfl rfl rfl (by simp;omega) oo) ?_;rintro _ w1 ⟨rfl,E,L,_⟩;refine A7 ?_;refine St.loop (fun g:Nat×Nat×List Nat=>[(0,.slice p xs.length c),(1,.slice q ys.length d),(5,.slice (some ⟨w.heap.size,0,none⟩) xs.length xs.length),(6,.int .u64 g.2.1),(13,.int .i64 xs.length),(14,.int .i64 g.1)])
  (fun g w2=>Ac w w2/\Aj 109 w2 w.heap.size (g.2.2.map Dr)/\g.2.2.length=xs.length/\EB g.2.2/\g.2.1<=1/\g.1<=xs.length/\Ah (g.2.2.take g.1)+Ah (ys.take g.1)=Ah (xs.take g.1)+g.2.1 * 4294967296 ^ g.1)
  (fun g=>xs.length - g.1) (0,0,List.replicate xs.length 0) ⟨rfl,rfl,rfl,rfl,rfl,rfl,trivial⟩ ⟨L,by rw[G9];exact E,by simp,DL _,by simp,by simp,by simp[Ah]⟩ ?_
 rintro⟨j,cy,us⟩ w2 ⟨m,b,e,l,G,C,f⟩;simp only at b e l G C f;have n:=h.ext m;have hB:=k.ext m;by_cases I:j<xs.length
 ·have o:xs[j]?=some xs[j]:=by simp
  generalize xs[j]=x at o;have Q:=h.2.get o;have M:=UN k.2 j;refine Nv ?_;refine .a 1 (.bool true) rfl (Aa oo) ?_;refine Nv ?_;refine .cT ?_;refine Nv ?_;refine .r rfl ?_;refine Nv ?_;refine .r rfl ?_;refine Af.elem A8 j (Dr x) n.1 (n.get o) rfl rfl rfl rfl rfl rfl rfl rfl rfl rfl rfl (fun _=>rfl) ?_;intro p1;refine .r rfl ?_;(refine Af.nil ?_;repeat with_reducible first | refine Ad.ak ?_ | refine Ad.aL ?_);refine St.cut (fun t:Int=>[(0,.slice p xs.length c),(1,.slice q ys.length d),(5,.slice (some ⟨w.heap.size,0,none⟩) xs.length xs.length),(7,.int .i64 j),(8,.int .u64 t),(13,.int .i64 xs.length),(14,.int .i64 j)])
   (fun t w3=>w3=w2/\t=IntKind.u64.wrap ((x:Int) - cy - ys.getD j 0)) ?_ ?_
  ·refine Nv ?_;by_cases D:j<ys.length
   ·have i:ys[j]?=some ys[j]:=by simp
    generalize ys[j]=y at i;have z:ys.getD j 0=y:=by simp[Bd,i]
    refine .a 4 (.bool true) rfl (Aa oo) ?_;refine Nv ?_;refine .cT ?_;refine Nv ?_;refine .r rfl ?_;refine Af.elem A8 j (Dr y) hB.1 (hB.get i) rfl rfl rfl rfl rfl rfl rfl rfl rfl rfl rfl (fun _=>rfl) ?_;intro p2;refine .r rfl ?_;refine Af.nil (Ad.met _ ⟨rfl,rfl,rfl,rfl,rfl,rfl,rfl,trivial⟩ ⟨rfl,?_⟩);rw[z];rw[z]at M;simp only[Cz];omega
   ·have z:ys.getD j 0=0:=by rw[Bd,BJ oo];rfl
    refine .a 4 (.bool false) rfl (A9 oo) ?_;refine Nv ?_;refine .cF ?_;refine St.skip (Ad.met _ ⟨rfl,rfl,rfl,rfl,rfl,rfl,rfl,trivial⟩ ⟨rfl,?_⟩);rw[z];simp only[Cz];omega
  rintro t w3 ⟨rfl,rfl⟩;generalize D:ys.getD j 0=y at *
  refine A7 ?_;have e2:IntKind.u32.wrap (IntKind.u64.wrap ((x:Int) - cy - y))=(((x+8589934592 - cy - y) % 4294967296:Nat):Int):=by simp only[CJ,Cz];omega
  refine Af.put A8 j b rfl oo (by simp;omega) rfl rfl rfl rfl rfl rfl rfl rfl (fun _=>rfl) (fun _=>rfl) rfl rfl ?_;intro p3 N B K;rw[e2,AE,CA]at B;refine A7 ?_;refine Ad.again (j+1,(if x<cy+y then 1 else 0),us.set j ((x+8589934592 - cy - y) % 4294967296)) ⟨rfl,rfl,rfl,?_,rfl,?_,trivial⟩ ⟨m.aj K AO,B,by simpa using e,l.set _ oo,by simp only;split <;> omega,by simp only;omega,?_⟩ (by simp only;omega)
  ·show some (Value.int .u64 (IntKind.u64.wrap ((x:Int) - cy - y) / 2 ^ 63))=some (Value.int .u64 ((if x<cy+y then 1 else 0:Nat):Int));congr 2;rw[Cz];split <;> omega
  ·show some (Value.int .i64 (IntKind.i64.wrap ((j:Int)+1)))=_;rw[Ab oo oo];rfl
  ·simp only;rw[Cs oo,Az o,UM,D,Ck];refine A4i _ _ _ _ _ _ _ _ _ f ?_;split <;> omega
 obtain rfl:j=xs.length:=by omega
 rw[D5,Bs H,Bs oo]at f;have J:=Fm us l;rw[e]at J;have F:cy=0:=by
  rcases Dl cy 1 with h0 | h0
  ·omega
  ·have:cy=1:=by omega
   subst this;omega
 subst F;clear I C;refine Nv ?_;refine .a 1 (.bool false) rfl (A9 oo) ?_;refine Nv ?_;refine .cf ?_;have A:Ei w.heap.size w2 (.slice (some ⟨w.heap.size,0,none⟩) xs.length xs.length) us :=
  ⟨Aj.own b (by simp[e]) AO oo,l⟩
 refine .s (oK AB (BN w2 _ _ A.sl oo)) ?_;rintro r N ⟨rfl,rfl,_⟩;refine A7 ?_;refine uR ⟨m,?_⟩;have:=A.trimmed;rw[show Ah xs - Ah ys=Ah us from by omega];exact this
theorem Zh (S j T D d g c x y z v c':Nat) (l:D=d * g) (h:S+c * D=j+x * T * d) (m:v+c' * 4294967296=c+x * y+z):(S+v * D)+c' * (D * 4294967296)=(j+z * D)+x * (T+y * g) * d:=by
 have k:=congrArg (· * D) m;simp only[Bw]at k;have e:c' * 4294967296 * D=c' * (D * 4294967296):=by rw[Bb,AQ 4294967296]
 have e2:x * (T+y * g) * d=x * T * d+x * y * D:=by rw[Dk,Bw,l];congr 1;rw[Bb,Bb,Bb,AQ g]
 omega
theorem Rw {c x y z:Nat}(d:c<4294967296) (e:x<4294967296) (g:y<4294967296) (j:z<4294967296):c+x * y+z<18446744073709551616:=by have:x * y<=4294967295 * 4294967295:=Dg oo oo;omega
theorem M4?_of_drop {us vs:List Nat}{k j:Nat}(h:us.drop k=vs.drop k) (d:k<=j):us[j]?=vs[j]?:=by
 have c:(us.drop k)[j - k]?=(vs.drop k)[j - k]?:=by rw[h]
 simpa[Jt,show k+(j - k)=j from by omega] using c
theorem Kt {us vs:List Nat}{k v:Nat}(h:us.drop k=vs.drop k):(us.set k v).drop (k+1)=vs.drop (k+1):=by
 rw[List.drop_set_of_lt oo];have:(us.drop k).drop 1=(vs.drop k).drop 1:=by rw[h]
 simpa[Hl,FD] using this
theorem UO (w:World) (u:Value) (xs:List Nat) (h:Sl w u xs) (c:xs.length<=1):Ah xs<4294967296:=by
 match xs,c with
 | [],_=>simp[Ah]
 | [a],_=>have:=h.2 a sm;simp only[Ah];omega
theorem Zi (w:World) (u v:Value) (xs ys:List Nat) (h:Sl w u xs) (k:Sl w v ys) (hg:xs.length<=100000000) (hl:ys.length<=100000000) :
  Calls prog 71 #[u,v] w (AJ fun r w'=>Ac w w'/\Ei w.heap.size w' r (Ae (Ah xs * Ah ys))):=by
 obtain⟨p,c,rfl,_⟩:=h.form;obtain⟨q,d,rfl,_⟩:=k.form;refine cS func71 ntmps71 ?_;refine St.seq (St.region (Af.run A8 99 rfl (Af.nil (Ad.ak ?_))));by_cases N:xs.length<=1/\ys.length<=1
 ·have V:=UO w _ xs h N.1;have hh:=UO w _ ys k N.2;have hc:Ah xs * Ah ys<18446744073709551616:=by have:Ah xs * Ah ys<=4294967295 * 4294967295:=Dg oo oo;omega
  refine Nv ?_;refine .a 3 (.bool true) rfl (Aa oo) ?_;refine .a 4 (.bool true) rfl (Aa oo) ?_;refine A7 ?_;refine .ct ?_;refine .s (oK DC (I7 w _ xs h oo)) ?_;rintro r w1 ⟨rfl,rfl⟩;refine .r rfl ?_;refine .s (oK DC (I7 _ _ ys k oo)) ?_;rintro r w2 ⟨rfl,rfl⟩;refine .a 1 (.int .u64 ((Ah xs * Ah ys:Nat):Int)) rfl ?_ ?_
  ·rw[show ((Ah xs:Int) * (Ah ys:Int))=((Ah xs * Ah ys:Nat):Int) from by simp,BG oo oo]
  refine .s (oK CM (Ey _ _ hc)) ?_;rintro r w3 ⟨o,hr⟩;refine A7 ?_;exact uR ⟨o,hr⟩
 refine St.cut (fun _:Unit=>[(0,.slice p xs.length c),(1,.slice q ys.length d)]) (fun _ w'=>w'=w) ?_ ?_
 ·refine Nv ?_;by_cases f:xs.length<=1
  ·refine .a 3 (.bool true) rfl (Aa oo) ?_;refine .a 4 (.bool false) rfl (A9 oo) ?_;refine A7 ?_;refine St.ay rfl rfl (St.skip (Ad.met () ⟨rfl,rfl,trivial⟩ rfl))
  ·refine .a 3 (.bool false) rfl (A9 oo) ?_;refine A7 ?_;refine St.ay rfl rfl (St.skip (Ad.met () ⟨rfl,rfl,trivial⟩ rfl))
 rintro _ w' rfl;clear N;refine A7 ?_;refine .s (Av.make A8 (xs.length+ys.length) rfl rfl rfl rfl rfl (by rw[Ab oo oo];omega) rfl (by rw[Ab oo oo];omega) (by simp;omega) oo) ?_;rintro _ w1 ⟨rfl,X,V,_⟩;refine A7 ?_;refine St.loop (fun g:Nat×List Nat=>[(0,.slice p xs.length c),(1,.slice q ys.length d),(5,.slice (some ⟨w'.heap.size,0,none⟩) (xs.length+ys.length) (xs.length+ys.length)),(32,.slice p xs.length c),(33,.int .i64 xs.length),(34,.int .i64 g.1)])
  (fun g w2=>Ac w' w2/\Aj 109 w2 w'.heap.size (g.2.map Dr)/\g.2.length=xs.length+ys.length/\EB g.2/\g.1<=xs.length/\Ah (g.2.take (g.1+ys.length))=Ah (xs.take g.1) * Ah ys/\∀ j,g.1+ys.length<=j->j<g.2.length->g.2[j]?=some 0)
  (fun g=>xs.length - g.1) (0,List.replicate (xs.length+ys.length) 0) ⟨rfl,rfl,rfl,rfl,rfl,rfl,trivial⟩ ⟨V,by rw[G9];exact X,by simp,DL _,by simp,by simp[Ah,List.take_replicate,CR],fun j _ e=>by simp at e;simp[TA];omega⟩ ?_
 rintro⟨i,us⟩ w2 ⟨H,A,E,F,T,m,J⟩;simp only at A E F T m J;have Q:=h.ext H;by_cases Y:i<xs.length
 ·have b:xs[i]?=some xs[i]:=by simp
  generalize xs[i]=x at b;have hb:=h.2.get b;refine Nv ?_;refine .a 1 (.bool true) rfl (Aa oo) ?_;refine Nv ?_;refine .ct ?_;refine Af.elem A8 i (Dr x) Q.1 (Q.get b) rfl rfl rfl rfl rfl rfl rfl rfl rfl rfl rfl (fun _=>rfl) ?_;intro p1;refine A7 ?_;by_cases ha:x=0
  ·subst ha;refine .ct ?_;refine Ad.again (i+1,us) ⟨rfl,rfl,rfl,rfl,rfl,?_,trivial⟩ ⟨H,A,E,F,by simp only;omega,?_,fun j f e=>J j (by simp only at f;omega) e⟩ (by simp only;omega)
   ·show some (Value.int .i64 (IntKind.i64.wrap ((i:Int)+1)))=_;rw[Ab oo oo];rfl
   ·simp only;rw[show i+1+ys.length=i+ys.length+1 from by omega,Az (J (i+ys.length) oo oo),Az b];simpa using m
  refine St.ay rfl (by simp;omega) ?_;refine A7 ?_;have L:IntKind.i64.wrap (IntKind.i64.wrap ((i:Int)+(ys.length:Int))+1)=((i+ys.length+1:Nat):Int):=by rw[Ab (n:=(i:Int)+(ys.length:Int)) oo oo,Ab oo oo];omega
  refine .p (A0.cA A8 rfl rfl rfl rfl rfl rfl oo (by rw[L];omega) (by rw[L];omega) oo) ?_;rw[L,show (((i+ys.length+1:Nat):Int).toNat - (i:Int).toNat)=ys.length+1 from by omega,show (0+(i:Int).toNat)=i from by omega,show xs.length+ys.length - (i:Int).toNat=xs.length+ys.length - i from by omega];refine A7 ?_;refine St.loop (fun g:Nat×Nat×List Nat=>[(0,.slice p xs.length c),(1,.slice q ys.length d),(5,.slice (some ⟨w'.heap.size,0,none⟩) (xs.length+ys.length) (xs.length+ys.length)),(32,.slice p xs.length c),(33,.int .i64 xs.length),(34,.int .i64 i),(7,Dr x),(8,.slice (some ⟨w'.heap.size,i,none⟩) (ys.length+1) (xs.length+ys.length - i)),(9,.int .u64 g.2.1),(49,.slice q ys.length d),(50,.int .i64 ys.length),(51,.int .i64 g.1)])
   (fun g w3=>Ac w' w3/\Aj 109 w3 w'.heap.size (g.2.2.map Dr)/\g.2.2.length=xs.length+ys.length/\EB g.2.2/\g.2.1<4294967296/\g.1<=ys.length/\g.2.2.drop (i+g.1)=us.drop (i+g.1)/\Ah (g.2.2.take (i+g.1))+g.2.1 * 4294967296 ^ (i+g.1)=Ah (us.take (i+g.1))+x * Ah (ys.take g.1) * 4294967296 ^ i)
   (fun g=>ys.length - g.1) (0,0,us) ⟨rfl,rfl,rfl,rfl,rfl,rfl,rfl,rfl,rfl,rfl,rfl,rfl,trivial⟩ ⟨H,A,E,F,by simp,by simp,rfl,by simp[Ah]⟩ ?_
  rintro⟨j,cy,vs⟩ w3 ⟨o,B,P,G,M,U,C,D⟩;simp only at B P G M U C D;have hB:=k.ext o;by_cases Z:j<ys.length
  ·have I:ys[j]?=some ys[j]:=by simp
   generalize ys[j]=y at I;have hd:=k.2.get I;have K:vs[i+j]?=some vs[i+j]:=by simp
   generalize vs[i+j]=z at K;have he:=G.get K;have hf:us[i+j]?=some z:=by rw[<- M4?_of_drop C AO];exact K
   have S:=Rw M hb hd he;refine Nv ?_;refine .a 1 (.bool true) rfl (Aa oo) ?_;refine Nv ?_;refine .ct ?_;refine Af.elem A8 j (Dr y) hB.1 (hB.get I) rfl rfl rfl rfl rfl rfl rfl rfl rfl rfl rfl (fun _=>rfl) ?_;intro p2;refine A7 ?_;refine Af.br A8 j (Dr z) B (by simp[K]) rfl oo rfl rfl rfl rfl rfl rfl rfl rfl rfl rfl (fun _=>rfl) ?_;intro p3;have e1:IntKind.u64.wrap ((cy:Int)+IntKind.u64.wrap (IntKind.u64.wrap (IntKind.u64.wrap (x:Int) * IntKind.u64.wrap (y:Int))+IntKind.u64.wrap (z:Int)))=((cy+x * y+z:Nat):Int):=by rw[BG (n:=(x:Int)) oo oo,BG (n:=(y:Int)) oo oo,show (x:Int) * (y:Int)=((x * y:Nat):Int) from by simp];generalize x * y=xy at S;simp only[Cz];omega
   refine .a 3 (.int .u64 ((cy+x * y+z:Nat):Int)) rfl (by rw[e1]) ?_;generalize ht:cy+x * y+z=t at S;refine A7 ?_;have e2:IntKind.u32.wrap (t:Int)=((t % 4294967296:Nat):Int):=by rw[CJ];omega
   refine Af.put A8 j B rfl oo (by simp;omega) rfl rfl rfl rfl rfl rfl rfl rfl (fun _=>rfl) (fun _=>rfl) rfl rfl ?_;intro p4 W l O;rw[e2,CA]at l;refine A7 ?_;refine Ad.again (j+1,t / 4294967296,vs.set (i+j) (t % 4294967296)) ⟨rfl,rfl,rfl,rfl,rfl,rfl,rfl,rfl,?_,rfl,rfl,?_,trivial⟩ ⟨o.aj O AO,l,by simpa using P,G.set _ oo,by simp only;omega,by simp only;omega,?_,?_⟩ (by simp only;omega)
   ·show some (Value.int .u64 ((t:Int) / 2 ^ 32))=some (Value.int .u64 ((t / 4294967296:Nat):Int));rw[show (t:Int) / 2 ^ 32=((t / 4294967296:Nat):Int) from by omega]
   ·show some (Value.int .i64 (IntKind.i64.wrap ((j:Int)+1)))=_;rw[Ab oo oo];rfl
   ·simp only;rw[<- HS];exact Kt C
   ·simp only;rw[<- HS,Cs oo,Az hf,Az I,Ck];exact Zh _ _ _ _ _ _ _ _ _ _ _ _ (Df _ _ _) D oo
  obtain rfl:j=ys.length:=by omega
  rw[D5]at D;clear Z U;refine Nv ?_;refine .a 1 (.bool false) rfl (A9 oo) ?_;refine Nv ?_;refine .cf ?_;have e2:IntKind.u32.wrap (cy:Int)=(cy:Int):=Hs oo oo;refine Af.put A8 ys.length B rfl oo (by simp;omega) rfl rfl rfl rfl rfl rfl rfl rfl (fun _=>rfl) (fun _=>rfl) rfl rfl ?_;intro p4 W l O;rw[e2,CA]at l;refine A7 ?_;refine Ad.again (i+1,vs.set (i+ys.length) cy) ⟨rfl,rfl,rfl,rfl,rfl,?_,trivial⟩ ⟨o.aj O AO,l,by simpa using P,G.set _ M,by simp only;omega,?_,?_⟩ (by simp only;omega)
  ·show some (Value.int .i64 (IntKind.i64.wrap ((i:Int)+1)))=_;rw[Ab oo oo];rfl
  ·simp only;rw[show i+1+ys.length=i+ys.length+1 from by omega,Cs oo,D,m,Az b,Bw];congr 1;rw[Bb,Bb,AQ (Ah ys)]
  ·intro j f e;simp only at f e ⊢;rw[Ce oo,M4?_of_drop C oo];exact J j oo (by simp at e;omega)
 obtain rfl:i=xs.length:=by omega
 rw[D5,Bs oo]at m;clear Y T;refine Nv ?_;refine .a 1 (.bool false) rfl (A9 oo) ?_;refine Nv ?_;refine .cf ?_;have R:Ei w'.heap.size w2 (.slice (some ⟨w'.heap.size,0,none⟩) (xs.length+ys.length) (xs.length+ys.length)) us :=
  ⟨Aj.own A (by simp[E]) AO oo,F⟩
 refine .s (oK AB (BN w2 _ _ R.sl oo)) ?_;rintro r W ⟨rfl,rfl,_⟩;refine A7 ?_;refine uR ⟨H,?_⟩;have:=R.trimmed;rw[<- m];exact this
variable {D:List Value}
theorem IE {A:List Value}{x:Nat}(e:A.length=off) (c:xs[j]?=some x):(A++(xs.map Dr++D))[off+j]?=some (Dr x):=by have d:j<xs.length:=(Au.1 c).1;rw[Es oo,show off+j - A.length=j from by omega,BM (by simpa using d)];simp[c]
theorem O9 {A:List Value}{v:Nat}(d:A.length=off) (c:j<xs.length):(A++(xs.map Dr++D)).set (off+j) (Dr v)=A++((xs.set j v).map Dr++D):=by rw[TK _ _ oo,show off+j - A.length=j from by omega,NR _ _ (by simpa using c),CA]
theorem Rx {x:Nat}(c:xs[j]?=some x):Ah (xs.drop j)=x+4294967296 * Ah (xs.drop (j+1)):=by have d:j<xs.length:=(Au.1 c).1;rw[DH d]at c;rw[ED d,Ir c,Ah]
theorem N7 {r:Nat}(h:r<4294967296):r * 4294967296<18446744073709551616:=by omega
theorem Ku (w:World) (b off cap d:Nat) (A D:List Value) (xs:List Nat) (J:Aj 109 w b (A++(xs.map Dr++D))) (z:A.length=off) (L:EB xs) (U:xs.length<=1000000000) (h:0<d) (T:d<4294967296) :
  Calls prog 77 #[.slice (some ⟨b,off,none⟩) xs.length cap,.int .u32 d] w
   (AJ fun r w'=>r=.int .u32 ((Ah xs % d:Nat):Int)/\CE b w w'/\∃ us,us.length=xs.length/\EB us/\Ah us=Ah xs / d/\Aj 109 w' b (A++(us.map Dr++D))):=by
 refine cS func77 ntmps77 ?_;refine A7 ?_;refine St.loop (fun g:Nat×Nat×List Nat=>[(0,.slice (some ⟨b,off,none⟩) xs.length cap),(1,.int .u32 d),(5,.int .u64 g.2.1),(6,.int .i64 ((g.1:Int) - 1))])
  (fun g w2=>CE b w w2/\Aj 109 w2 b (A++(g.2.2.map Dr++D))/\g.2.2.length=xs.length/\EB g.2.2/\g.2.1<d/\g.1<=xs.length/\g.2.2.take g.1=xs.take g.1/\Ah (xs.drop g.1)=Ah (g.2.2.drop g.1) * d+g.2.1)
  (fun g=>g.1) (xs.length,0,xs) ⟨rfl,rfl,rfl,?_,trivial⟩ ⟨CE.refl _ _,J,rfl,L,h,Ai _,rfl,by simp[Ah]⟩ ?_
 ·show some (Value.int .i64 (IntKind.i64.wrap ((xs.length:Int) - 1)))=_;rw[Ab oo oo]
 rintro⟨j,r,us⟩ w2 ⟨H,e,y,l,k,K,v,c⟩;simp only at e y l k K v c;dsimp only;by_cases I:j=0
 ·subst I;refine Nv ?_;refine .a 2 (.bool false) rfl (A9 sm) ?_;refine Nv ?_;refine .cf ?_;simp only[FE]at c;refine uR ⟨?_,H,us,y,l,?_,e⟩
  ·rw[c,AQ,Nat.mul_add_mod,Hj k,Hs oo oo]
  ·rw[c];rw[AQ,Nat.mul_add_div oo,J5 k];simp
 obtain⟨i,rfl⟩:∃ i,j=i+1:=⟨j - 1,by omega⟩;have o:us[i]?=some us[i]:=by simp
 generalize us[i]=x at o;have R:=l.get o;have S:xs[i]?=some x:=by
  have:(us.take (i+1))[i]?=(xs.take (i+1))[i]?:=by rw[v]
  rw[Dz oo,Dz oo]at this;rw[<- this];exact o
 have e0:(((i+1:Nat):Int) - 1)=(i:Int):=by omega
 simp only[e0];refine Nv ?_;refine .a 2 (.bool true) rfl (Aa oo) ?_;refine Nv ?_;refine .ct ?_;refine Af.br A8 i (Dr x) e (IE z o) rfl oo rfl rfl rfl rfl rfl rfl rfl rfl rfl rfl (fun _=>rfl) ?_;intro p1;have N:r * 4294967296+x<d * 4294967296:=by have:(r+1) * 4294967296<=d * 4294967296:=Bm _ k;omega
 have M:r<4294967296:=by omega
 have G:r * 4294967296<18446744073709551616:=N7 M;have Q:x<18446744073709551616:=by omega
 have e1:Km .or .u64 (IntKind.u64.wrap ((r:Int) * 2 ^ 32)) (IntKind.u64.wrap (x:Int))=((r * 4294967296+x:Nat):Int):=by rw[show (r:Int) * 2 ^ 32=((r * 4294967296:Nat):Int) from by rw[Gv];rfl,BG (n:=((r * 4294967296:Nat):Int)) (PY _) (Int.ofNat_le.2 (Nat.le_of_lt_succ G)),BG (n:=(x:Int)) oo oo,Pb _ _ G Q,NP,Qb _ _ R,FD]
 refine .a 2 (.int .u64 ((r * 4294967296+x:Nat):Int)) rfl (by rw[e1]) ?_;generalize V:r * 4294967296+x=t at N;have W:t<18446744073709551616:=by omega
 refine A7 ?_;have ed:IntKind.u64.wrap (d:Int)=(d:Int):=BG oo oo;refine .p (A0.quo rfl rfl oo (by rw[ed];omega)) ?_;rw[ed];have E:t / d<4294967296:=by apply Ki;omega
 have s:=Ho t d;have F:(t:Int) / (d:Int)=((t / d:Nat):Int):=by simp
 have B:(t:Int) % (d:Int)=((t % d:Nat):Int):=by simp
 have C:=CX t h;generalize t / d=q at E s F;generalize t % d=m at s B C;rw[F];have e2:IntKind.u32.wrap (IntKind.u64.wrap (q:Int))=(q:Int):=by rw[BG oo oo,Hs oo oo]
 refine .a 1 (.int .u32 (q:Int)) rfl (by rw[e2]) ?_;refine Af.put A8 i e rfl oo (by simp;omega) rfl rfl rfl rfl rfl rfl rfl rfl (fun _=>rfl) (fun _=>rfl) rfl rfl ?_;intro p3 w3 f P;rw[O9 z oo]at f;refine A7 ?_;refine .p (A0.rem rfl rfl oo (by rw[ed];omega)) ?_;rw[ed];refine A7 ?_;refine Ad.again (i,m,us.set i q) ⟨rfl,rfl,?_,?_,trivial⟩ ⟨H.trans P,f,by simpa using y,l.set _ E,C,by simp only;omega,?_,?_⟩ (by simp only;omega)
 ·show some (Value.int .u64 ((t:Int) % (d:Int)))=_;rw[B]
 ·show some (Value.int .i64 (IntKind.i64.wrap ((i:Int) - 1)))=_;rw[Ab oo oo]
 ·simp only;rw[List.take_set_of_le oo];have u:(us.take (i+1)).take i=(xs.take (i+1)).take i:=by rw[v]
  simpa[List.take_take,H8 (LK i)] using u
 ·simp only;have O:(us.set i q)[i]?=some q:=Bx oo;rw[Rx S,Rx O,c,List.drop_set_of_lt oo];have u:(q+4294967296 * Ah (us.drop (i+1))) * d=d * q+4294967296 * (Ah (us.drop (i+1)) * d):=by rw[Bw,AQ q,Bb]
  rw[u,Dk];omega
theorem A6n (x y V' s:Nat) (m:s<32) (o:x<4294967296):(x+4294967296 * (y+4294967296 * V')) / 2 ^ s=(x+4294967296 * y) / 2 ^ s % 4294967296+4294967296 * ((y+4294967296 * V') / 2 ^ s):=by
 have c:0<2 ^ s:=EM de;have hB:4294967296=2 ^ s * 2 ^ (32 - s):=by rw[<- Df,show s+(32 - s)=32 from by omega]
 generalize 2 ^ (32 - s)=M at hB;generalize 2 ^ s=N at hB c;have e:=Ho y N;have d:=CX y c;generalize y / N=q at e;generalize y % N=R at e d;subst e;generalize l:4294967296=B at *
 have e1:x+B * (N * q+R+B * V')=(x+B * R)+N * (B * q+B * (M * V')):=by
  have g:B * (B * V')=N * (B * (M * V')):=by
   conv=>lhs;arg 2;rw[hB]
   rw[Bb,NS]
  have j:B * (N * q)=N * (B * q):=NS _ _ _;simp only[Dk];omega
 have e2:x+B * (N * q+R)=(x+B * R)+N * (B * q):=by have j:B * (N * q)=N * (B * q):=NS _ _ _;simp only[Dk];omega
 have e3:N * q+R+B * V'=R+N * (q+M * V'):=by
  have g:B * V'=N * (M * V'):=by
   conv=>lhs;rw[hB]
   rw[Bb]
  simp only[Dk];omega
 rw[e1,e2,e3,NT _ _ c,NT _ _ c,NT _ _ c,J5 d];have k:(x+B * R) / N<B:=by apply Ki;have:B * (R+1)<=B * N:=HV _ d;rw[AQ N];rw[Dk]at this;omega
 rw[Nat.add_mul_mod_self_left,Hj k,AE,Dk]
def XM (s:Nat):List Nat->List Nat
 | []=>[]
 | x::r=>(x+4294967296 * r.headD 0) / 2 ^ s % 4294967296::XM s r
theorem A6o (s:Nat) (e:s<32):∀ xs,EB xs->Ah (XM s xs)=Ah xs / 2 ^ s:=by
 intro xs;induction xs with
 | nil=>intro _;simp[XM,Ah]
 | cons x r ih =>
  intro h;obtain⟨c,d⟩:=EB.cons.1 h;simp only[XM,Ah,ih d];cases r with
  | nil =>
   simp only[List.headD_nil,Ah,Nat.mul_zero,Ep,Nat.zero_div];have g:x / 2 ^ s<=x:=EN _ _;exact Hj oo
  | cons y t =>
   simp only[List.headD_cons,Ah];exact (A6n x y (Ah t) s e c).symm
theorem GA (s:Nat) (xs:List Nat):(XM s xs).length=xs.length:=by
 induction xs with
 | nil=>rfl
 | cons x r ih=>simp[XM,ih]
theorem A6p (s:Nat) (xs:List Nat):EB (XM s xs):=by
 induction xs with
 | nil=>exact EB.nil
 | cons x r ih=>exact EB.cons.2 ⟨CX _ de,ih⟩
theorem A6q (s:Nat):∀ (xs:List Nat) (i x:Nat),xs[i]?=some x->(XM s xs)[i]?=some ((x+4294967296 * xs.getD (i+1) 0) / 2 ^ s % 4294967296):=by
 intro xs;induction xs with
 | nil=>intro i x h;simp at h
 | cons a r ih =>
  intro i x h;cases i with
  | zero =>
   simp only[Hq,AP]at h;subst h;cases r <;> simp[XM]
  | succ i =>
   have:=ih i x (by simpa using h);simpa[XM] using this
theorem Ad.none0 {w:World}(d:fn.results=#[]) (h:Φ (.tuple #[]) w):Ad n E w .normal (bodyPost P fn (AJ Φ)):=fun _ c =>
 bodyPost_end (results_none d _ P w) c.defers ⟨_,rfl,h⟩
theorem Te (w:World) (b off cap s:Nat) (A D:List Value) (xs:List Nat) (t:Aj 109 w b (A++(xs.map Dr++D))) (e:A.length=off) (u:EB xs) (J:xs.length<=1000000000) (M:s<32) :
  Calls prog 211 #[.slice (some ⟨b,off,none⟩) xs.length cap,.int .i64 s] w
   (AJ fun _ w'=>CE b w w'/\Aj 109 w' b (A++((XM s xs).map Dr++D))):=by
 have L:(0:Nat)<2 ^ s:=EM de;refine cS func211 ntmps211 ?_;refine A7 ?_;refine St.loop (fun i:Nat=>[(0,.slice (some ⟨b,off,none⟩) xs.length cap),(1,.int .i64 s),(7,.int .i64 xs.length),(8,.int .i64 i)])
  (fun i w2=>CE b w w2/\i<=xs.length/\Aj 109 w2 b (A++(((XM s xs).take i++xs.drop i).map Dr++D)))
  (fun i=>xs.length - i) 0 ⟨rfl,rfl,rfl,rfl,trivial⟩ ⟨CE.refl _ _,by omega,by simpa using t⟩ ?_
 rintro i w2 ⟨z,I,c⟩;have j:((XM s xs).take i).length=i:=by simp[GA];omega
 by_cases v:i<xs.length
 ·have d:xs[i]?=some xs[i]:=by simp
  generalize xs[i]=x at d;have F:=u.get d;have f:((XM s xs).take i++xs.drop i)[i]?=some x:=by rw[Es oo,j];simpa using d
  have H:=UN u (i+1);refine Nv ?_;refine .a 1 (.bool true) rfl (Aa oo) ?_;refine Nv ?_;refine .cT ?_;refine Nv ?_;refine .r rfl ?_;refine Nv ?_;refine .r rfl ?_;refine Af.br A8 i (Dr x) c (IE e f) rfl oo rfl rfl rfl rfl rfl rfl rfl rfl rfl rfl (fun _=>rfl) ?_;intro p1;refine .r rfl ?_;(refine Af.nil ?_;repeat with_reducible first | refine Ad.ak ?_ | refine Ad.aL ?_);refine St.cut (fun _:Unit=>[(0,.slice (some ⟨b,off,none⟩) xs.length cap),(1,.int .i64 s),(4,.int .i64 i),(5,.int .u64 ((x+4294967296 * xs.getD (i+1) 0:Nat):Int)),(7,.int .i64 xs.length),(8,.int .i64 i)]) (fun _ w3=>w3=w2) ?_ ?_
  ·refine Nv ?_;have e1:IntKind.i64.wrap ((i:Int)+1)=((i+1:Nat):Int):=by rw[Ab oo oo];rfl
   by_cases K:i+1<xs.length
   ·have l:xs[i+1]?=some xs[i+1]:=by simp
    generalize xs[i+1]=y at l;have k:xs.getD (i+1) 0=y:=by simp[Bd,l]
    have h:((XM s xs).take i++xs.drop i)[i+1]?=some y:=by rw[Es oo,j];simpa using l
    rw[k]at H ⊢;refine .a 5 (.bool true) rfl (Aa (by rw[e1];omega)) ?_;refine Nv ?_;refine .cT ?_;refine Nv ?_;refine .r rfl ?_;refine Af.br A8 (i+1) (Dr y) c (IE e h) e1 oo rfl rfl rfl rfl rfl rfl rfl rfl rfl rfl (fun _=>rfl) ?_;intro p2;refine .r rfl ?_;refine Af.nil (Ad.met () ⟨rfl,rfl,rfl,?_,rfl,rfl,trivial⟩ rfl);show some (Value.int .u64 (Km .or .u64 (IntKind.u64.wrap (x:Int)) (IntKind.u64.wrap (IntKind.u64.wrap (y:Int) * 2 ^ 32))))=_;rw[BG (n:=(y:Int)) oo oo,show (y:Int) * 2 ^ 32=((y * 4294967296:Nat):Int) from by rw[Gv];rfl,BG (n:=((y * 4294967296:Nat):Int)) oo oo,BG (n:=(x:Int)) oo oo,Pb _ _ oo oo,Qb _ _ F,AQ y]
   ·have k:xs.getD (i+1) 0=0:=by rw[Bd,BJ oo];rfl
    rw[k];refine .a 5 (.bool false) rfl (A9 (by rw[e1];omega)) ?_;refine Nv ?_;refine .cF ?_;refine St.skip (Ad.met () ⟨rfl,rfl,rfl,?_,rfl,rfl,trivial⟩ rfl);show some (Value.int .u64 (IntKind.u64.wrap (x:Int)))=_;rw[BG oo oo];simp
  rintro _ w3 rfl;generalize G:xs.getD (i+1) 0=y at *
  refine A7 ?_;refine .p (A0.shr s rfl rfl rfl (by show s<=64;omega)) ?_;have e3:((x+4294967296 * y:Nat):Int) / 2 ^ s=(((x+4294967296 * y) / 2 ^ s:Nat):Int):=by simp
  rw[e3];have B:(x+4294967296 * y) / 2 ^ s<=x+4294967296 * y:=EN _ _;generalize C:(x+4294967296 * y) / 2 ^ s=q at B;refine .a 1 (Dr (q % 4294967296)) rfl (by rw[CJ];simp) ?_;refine Af.put A8 i c rfl oo (by simp[GA];omega) rfl rfl rfl rfl rfl rfl rfl rfl (fun _=>rfl) (fun _=>rfl) rfl rfl ?_;intro p3 N m E;rw[O9 e (by simp[GA];omega)]at m;refine A7 ?_;refine Ad.again (i+1) ⟨rfl,rfl,rfl,?_,trivial⟩ ⟨z.trans E,by omega,?_⟩ oo
  ·show some (Value.int .i64 (IntKind.i64.wrap ((i:Int)+1)))=_;rw[Ab oo oo];rfl
  ·have g:=A6q s xs i x d;rw[G,C]at g;have o:i<(XM s xs).length:=by rw[GA];exact v
   have e4:((XM s xs).take i++xs.drop i).set i (q % 4294967296)=(XM s xs).take (i+1)++xs.drop (i+1):=by rw[TK _ _ oo,j,J6,ED v,TL,DA o];rw[DH o]at g;rw[Ir g];simp
   rw[<- e4];exact m
 obtain rfl:i=xs.length:=by omega
 refine Nv ?_;refine .a 1 (.bool false) rfl (A9 oo) ?_;refine Nv ?_;refine .cF ?_;refine Nv ?_;refine Ad.none0 rfl ⟨z,?_⟩;rw[Kj,D7,Bs (by rw[GA];exact Ai _)]at c;exact c
end Go.Qf
namespace Go.Qf
theorem A7S (g v R:Nat):g * (4294967296 * (v * R))=4294967296 * (g * v * R):=by rw[NS,Bb]
theorem Zj {U V R v1 v2 vr u2 ur g r high:Nat}(j:V=4294967296 * (v1 * R)+v2 * R+vr) (q:U=4294967296 * (high * R)+u2 * R+ur) (u:ur<R) (m:u2<4294967296) (k:high=g * v1+r) (l:r<v1):U<(g+1) * V:=by
 have c:g * V=4294967296 * (g * v1 * R)+g * v2 * R+g * vr:=by rw[j];simp only[Dk,A7S,Bb]
 have o:high * R=g * v1 * R+r * R:=by rw[k,Bw]
 have d:(r+1) * R<=v1 * R:=Bm _ l;have e:(u2+1) * R<=4294967296 * R:=Bm _ m;rw[Bw,Cf,c];rw[Bw,Cf]at d e;omega
theorem A0P {U V R v1 v2 vr u2 ur g r high:Nat}(c:V=4294967296 * (v1 * R)+v2 * R+vr) (o:U=4294967296 * (high * R)+u2 * R+ur) (q:ur<R) (d:high=g * v1+r) (e:r * 4294967296+u2<g * v2):U<g * V:=by
 have j:g * V=4294967296 * (g * v1 * R)+g * v2 * R+g * vr:=by rw[c];simp only[Dk,A7S,Bb]
 have k:high * R=g * v1 * R+r * R:=by rw[d,Bw]
 have l:(r * 4294967296+u2+1) * R<=g * v2 * R:=Bm _ e;have m:(r * 4294967296+u2+1) * R=4294967296 * (r * R)+u2 * R+R:=by rw[Bw,Bw,Cf,AQ r,Bb]
 omega
theorem Pq {U V R v1 v2 vr u2 ur g r high:Nat}(c:V=4294967296 * (v1 * R)+v2 * R+vr) (v:U=4294967296 * (high * R)+u2 * R+ur) (z:vr<R) (j:0<v1) (y:g<4294967296) (d:high=g * v1+r) (e:g * v2<=r * 4294967296+u2):g * V<U+V:=by
 have k:g * V=4294967296 * (g * v1 * R)+g * v2 * R+g * vr:=by rw[c];simp only[Dk,A7S,Bb]
 have l:high * R=g * v1 * R+r * R:=by rw[d,Bw]
 have m:g * v2 * R<=(r * 4294967296+u2) * R:=Bm _ e;have o:(r * 4294967296+u2) * R=4294967296 * (r * R)+u2 * R:=by rw[Bw,AQ r,Bb]
 have q:g * vr<=4294967295 * vr:=Bm _ oo;have u:1 * R<=v1 * R:=Bm _ j;omega
theorem Ry {U V g m:Nat}(d:U=g * V+m) (c:m<V):U / V=g/\U % V=m:=by
 subst d;constructor
 ·rw[AQ,Nat.mul_add_div oo,J5 c,Ep]
 ·rw[AQ,Nat.mul_add_mod,Hj c]
theorem Zk (S e d D G c b x y v lo c' b':Nat) (h:S+G * d=e+(c+b) * D) (k:c+G * y=lo+c' * 4294967296) (hv:x+b' * 4294967296=v+lo+b) :
  (S+v * D)+G * (d+y * D)=(e+x * D)+(c'+b') * (D * 4294967296):=by
 have g:=congrArg (· * D) k;have j:=congrArg (· * D) hv;simp only[Bw]at g j h;have e1:c' * 4294967296 * D=c' * (D * 4294967296):=by rw[Bb,AQ 4294967296]
 have e2:b' * 4294967296 * D=b' * (D * 4294967296):=by rw[Bb,AQ 4294967296]
 have e3:G * (d+y * D)=G * d+G * y * D:=by rw[Dk,Bb]
 rw[e3,Bw];omega
theorem A6r {U V g S Un u0 W c M:Nat}(e:S+g * V=Un+c * W) (v:U=Un+u0 * W) (m:M=S+(u0+4294967296 - c) * W) (r:u0<c) (o:c<=u0+4294967296) (q:g * V<U+V) (u:S<W) :
  0<g/\(g - 1) * V<=U/\U - (g - 1) * V<V/\M+V=(U - (g - 1) * V)+4294967296 * W:=by
 have j:(u0+4294967296 - c) * W=u0 * W+4294967296 * W - c * W:=by rw[Nat.sub_mul,Bw]
 have d:(u0+1) * W<=c * W:=Bm _ r;have l:c * W<=(u0+4294967296) * W:=Bm _ o;rw[Bw]at d l;rw[Cf]at d;rw[j]at m;generalize c * W=K at *
 generalize u0 * W=K0 at *
 have y:0<g:=by
  rcases Gu g with h | h
  ·subst h;simp at e;omega
  ·exact h
 obtain⟨k,rfl⟩:∃ k,g=k+1:=⟨g - 1,by omega⟩;rw[Bw,Cf]at e q;simp only[TM];generalize k * V=kV at *
 omega
end Go.Qf
namespace Go.Qf
open Go Go.RowKit Go.Proofs Go.Proofs.Tryz
variable {n s1 s2:Nat}{t ty:TypeId}{af:Array Edge}{g:Option (Nat×Bool)}{x:Operand}{E:List (Nat×Value)}{d:Option Tmp}{z:Value}{P:Program}{iv:Int}{T:List (Nat×TI)}
theorem N8 (w:World) (v:Value) (s:Nat) (xs:List Nat) (h:Sl w v xs) (I:xs.length<=100000000) (K:s<32) :
  Calls prog 209 #[v,.int .i64 s] w
   (AJ fun r w'=>Ac w w'/\r=.slice (some ⟨w.heap.size,0,none⟩) (xs.length+1) (xs.length+1)/\∃ us,us.length=xs.length+1/\EB us/\Ah us=Ah xs * 2 ^ s/\Aj 109 w' w.heap.size (us.map Dr)):=by
 have D:(0:Nat)<2 ^ s:=EM de;have E:(2:Nat) ^ s<=2147483648:=DB de (show s<=31 by omega);obtain⟨p,cap,rfl,_⟩:=h.form;refine cS func209 ntmps209 ?_;refine A7 ?_;refine .s (Av.make A8 (xs.length+1) rfl rfl rfl rfl rfl (by rw[Ab oo oo];omega) rfl (by rw[Ab oo oo];omega) (by simp;omega) oo) ?_;rintro _ w1 ⟨rfl,i,G,_⟩;refine A7 ?_;refine St.loop (fun g:Nat×Nat×List Nat=>[(0,.slice p xs.length cap),(1,.int .i64 s),(5,.slice (some ⟨w.heap.size,0,none⟩) (xs.length+1) (xs.length+1)),(6,.int .u64 g.2.1),(13,.slice p xs.length cap),(14,.int .i64 xs.length),(15,.int .i64 g.1)])
  (fun g w2=>Ac w w2/\Aj 109 w2 w.heap.size (g.2.2.map Dr)/\g.2.2.length=xs.length+1/\EB g.2.2/\g.2.1<2 ^ s/\g.1<=xs.length/\Ah (g.2.2.take g.1)+g.2.1 * 4294967296 ^ g.1=Ah (xs.take g.1) * 2 ^ s)
  (fun g=>xs.length - g.1) (0,0,List.replicate (xs.length+1) 0) ⟨rfl,rfl,rfl,rfl,rfl,rfl,rfl,trivial⟩ ⟨G,by rw[G9];exact i,by simp,DL _,D,by simp,by simp[Ah]⟩ ?_
 rintro⟨j,cy,us⟩ w2 ⟨q,e,m,o,y,B,z⟩;simp only at e m o y B z;dsimp only;have u:=h.ext q;by_cases J:j<xs.length
 ·have d:xs[j]?=some xs[j]:=by simp
  generalize xs[j]=x at d;have H:=h.2.get d;have f:x * 2 ^ s<=4294967295 * 2147483648:=Dg oo E;refine Nv ?_;refine .a 1 (.bool true) rfl (Aa oo) ?_;refine Nv ?_;refine .ct ?_;refine Af.elem A8 j (Dr x) u.1 (u.get d) rfl rfl rfl rfl rfl rfl rfl rfl rfl rfl rfl (fun _=>rfl) ?_;intro p1;refine A7 ?_;refine .p (A0.shl s rfl rfl rfl (by show s<=64;omega)) ?_;have e1:IntKind.u64.wrap (IntKind.u64.wrap (x:Int) * 2 ^ s)=((x * 2 ^ s:Nat):Int):=by rw[BG (n:=(x:Int)) oo oo,show (x:Int) * 2 ^ s=((x * 2 ^ s:Nat):Int) from by simp];generalize x * 2 ^ s=t at f;exact BG oo oo
  rw[e1];refine .a 1 (.int .u64 ((cy+x * 2 ^ s:Nat):Int)) rfl ?_ ?_
  ·have b:=Rl cy x s y;generalize x * 2 ^ s=t at f b;rw[Pb _ _ oo oo,b]
  have C:x * 2 ^ s * 4294967296 ^ j=x * 4294967296 ^ j * 2 ^ s:=Nat.mul_right_comm _ _ _;have A:cy+x * 2 ^ s<4294967296 * 2 ^ s:=by have:(x+1) * 2 ^ s<=4294967296 * 2 ^ s:=Bm _ H;rw[Bw,Cf]at this;omega
  have F:=Qr (Ah (us.take j)) (Ah (xs.take j) * 2 ^ s) 0 (4294967296 ^ j) cy (x * 2 ^ s) 0 ((cy+x * 2 ^ s) % 4294967296) ((cy+x * 2 ^ s) / 4294967296) oo oo;generalize L:cy+x * 2 ^ s=t at *
  have M:t<18446744073709551616:=by omega
  refine A7 ?_;have e2:IntKind.u32.wrap (t:Int)=((t % 4294967296:Nat):Int):=by rw[CJ];omega
  refine Af.put A8 j e rfl oo (by simp;omega) rfl rfl rfl rfl rfl rfl rfl rfl (fun _=>rfl) (fun _=>rfl) rfl rfl ?_;intro p3 w3 c l;rw[e2,AE,CA]at c;refine A7 ?_;refine Ad.again (j+1,t / 4294967296,us.set j (t % 4294967296)) ⟨rfl,rfl,rfl,?_,rfl,rfl,?_,trivial⟩ ⟨q.aj l AO,c,by simpa using m,o.set _ oo,Ki A,by simp only;omega,?_⟩ (by simp only;omega)
  ·show some (Value.int .u64 ((t:Int) / 2 ^ 32))=some (Value.int .u64 ((t / 4294967296:Nat):Int));rw[show (t:Int) / 2 ^ 32=((t / 4294967296:Nat):Int) from by omega]
  ·show some (Value.int .i64 (IntKind.i64.wrap ((j:Int)+1)))=_;rw[Ab oo oo];rfl
  ·simp only;rw[Cs oo,Az d,Ck,Bw,<- C];simpa using F
 obtain rfl:j=xs.length:=by omega
 rw[D5]at z;refine Nv ?_;refine .a 1 (.bool false) rfl (A9 oo) ?_;refine Nv ?_;refine .cf ?_;have e2:IntKind.u32.wrap (cy:Int)=(cy:Int):=Hs oo oo;refine Af.put A8 xs.length e rfl oo (by simp;omega) rfl rfl rfl rfl rfl rfl rfl rfl (fun _=>rfl) (fun _=>rfl) rfl rfl ?_;intro N w3 c l;rw[e2,AE,CA]at c;refine A7 ?_;refine Ad.ax rfl rfl ⟨q.aj l AO,rfl,us.set xs.length cy,by simpa using m,o.set _ oo,?_,c⟩;have:=Cs (us:=us) (k:=xs.length) oo cy;rw[Bs (by simp;omega)]at this;omega
theorem A0.dQ {w:World}(m:Aw P T) {i:Operand}{pos:String}{s:ByteArray}{k:IntKind}(j:Nat) (c:UInt8)
  (u:AG T t=some ⟨.string,s1,s2,z⟩) (v:ov E x=some (.string s)) (q:ov E i=some (.int k iv)) (r:iv=j) (o:s[j]?=some c) :
  A0 P n ⟨d,.index t x i,ty,pos,af,g⟩ E w (.int .u8 c.toNat):=by
 intro a e;have e1:=e.eval v;have e2:=e.eval q;generalize a.eval=ρ at e1 e2;subst r;have l:(0:Int)<=(j:Int):=by omega
 simp only[execOp,Instr.index,e1,e2,asIntOf,Bq,AX,Bp,Ag m u];simp only[if_pos l,Cj,o,AX,Bp]
theorem A0.cK {w:World}(c:Aw P T) {i:Operand}{pos:String}{s:ByteArray}{k:IntKind}(j:Nat) (f:Nat->UInt8)
  (o:AG T t=some ⟨.string,s1,s2,z⟩) (r:ov E x=some (.string s)) (e:ov E i=some (.int k iv)) (l:iv=j) (m:j<256) (q:∀ i:Fin 256,s[i.1]?=some (f i.1)) :
  A0 P n ⟨d,.index t x i,ty,pos,af,g⟩ E w (.int .u8 (f j).toNat) :=
 A0.dQ c j (f j) o r e l (q ⟨j,m⟩)
def Tf (y:Nat):Nat:=if y=0 then 0 else Nat.log2 y+1
theorem WN:∀ i:Fin 256,i.1≠0->2 ^ (Tf i.1 - 1)<=i.1/\i.1<2 ^ Tf i.1/\1<=Tf i.1/\Tf i.1<=8:=by decide +kernel
theorem A34 {x y l:Nat}(k:n+l<=32) (j:1<=l) (c:y * 2 ^ n<=x) (d:x<(y+1) * 2 ^ n) (e:2 ^ (l - 1)<=y) (g:y<2 ^ l):2147483648<=x * 2 ^ (32 - (n+l))/\x * 2 ^ (32 - (n+l))<4294967296:=by
 have e1:(2:Nat) ^ (l - 1) * 2 ^ n * 2 ^ (32 - (n+l))=2147483648:=by rw[<- Df,<- Df,show l - 1+n+(32 - (n+l))=31 from by omega]
 have e2:(2:Nat) ^ l * 2 ^ n * 2 ^ (32 - (n+l))=4294967296:=by rw[<- Df,<- Df,show l+n+(32 - (n+l))=32 from by omega]
 constructor
 ·rw[<- e1];exact Bm _ (Ar (Bm _ e) c)
 ·rw[<- e2];refine Nat.mul_lt_mul_of_pos_right (CW d (Bm _ g)) (EM de)
theorem A0Q (w:World) (x:Nat) (t:x≠0) (p:x<4294967296) :
  Calls prog 231 #[.int .u32 x] w (AJ fun r w'=>w'=w/\∃ L:Nat,r=.int .i64 L/\1<=L/\L<=32/\2147483648<=x * 2 ^ (32 - L)/\x * 2 ^ (32 - L)<4294967296):=by
 refine cS func231 ntmps231 ?_;refine St.seq (St.region (Af.run A8 99 rfl (Af.nil (Ad.ak ?_))));refine St.cut (fun g:Nat×Nat=>[(0,.int .u32 g.2),(2,.int .i64 g.1)]) (fun g w'=>w'=w/\(g.1=0\/g.1=16)/\g.2<65536/\g.2≠0/\g.2 * 2 ^ g.1<=x/\x<(g.2+1) * 2 ^ g.1) ?_ ?_
 ·refine A7 ?_;by_cases c:x<65536
  ·refine St.ay rfl (by simp;omega) ?_;exact St.skip (Ad.met (0,x) ⟨rfl,rfl,trivial⟩ ⟨rfl,.inl rfl,c,t,by simp,by simp⟩)
  ·refine St.aD rfl (by simp;omega) ?_;refine Nv ?_;refine .r rfl ?_;refine Nv ?_;refine .r rfl ?_;refine Af.nil (Ad.met (16,x / 65536) ⟨?_,rfl,trivial⟩ ⟨rfl,.inr rfl,by simp only;omega,by simp only;omega,by simp only;omega,by simp only;omega⟩);show some (Value.int .u32 ((x:Int) / 2 ^ 16))=_;rw[show (x:Int) / 2 ^ 16=((x / 65536:Nat):Int) from by omega]
 rintro⟨m,y⟩ w1 ⟨rfl,v,a,q,d,e⟩;simp only at v a q d e;dsimp only;refine St.cut (fun g:Nat×Nat=>[(0,.int .u32 g.2),(2,.int .i64 g.1)]) (fun g w'=>w'=w1/\g.1<=24/\g.2<256/\g.2≠0/\g.2 * 2 ^ g.1<=x/\x<(g.2+1) * 2 ^ g.1) ?_ ?_
 ·refine A7 ?_;by_cases c:y<256
  ·refine St.ay rfl (by simp;omega) ?_;exact St.skip (Ad.met (m,y) ⟨rfl,rfl,trivial⟩ ⟨rfl,by simp only;omega,c,q,d,e⟩)
  ·refine St.aD rfl (by simp;omega) ?_;refine Nv ?_;refine .r rfl ?_;refine Nv ?_;refine .r rfl ?_;refine Af.nil (Ad.met (m+8,y / 256) ⟨?_,?_,trivial⟩ ⟨rfl,by simp only;omega,by simp only;omega,by simp only;omega,?_,?_⟩)
   ·show some (Value.int .u32 ((y:Int) / 2 ^ 8))=_;rw[show (y:Int) / 2 ^ 8=((y / 256:Nat):Int) from by omega]
   ·show some (Value.int .i64 (IntKind.i64.wrap ((m:Int)+8)))=_;rw[Ab oo oo];rfl
   ·simp only;rw[Df,AQ (2 ^ m),<- Bb];exact Ar (Bm _ oo) d
   ·simp only;rw[Df,AQ (2 ^ m),<- Bb];exact CW e (Bm _ oo)
 rintro⟨m',y'⟩ w' ⟨rfl,z,j,u,k,o⟩;simp only at z j u k o;dsimp only;obtain⟨q1,q2,q3,b⟩:=WN ⟨y',j⟩ u;simp only at q1 q2 q3 b;refine A7 ?_;refine .s (A0.cK A8 y' (fun i=>UInt8.ofNat (Tf i)) rfl rfl rfl ?_ j (by decide +kernel)).op ?_
 ·show IntKind.u8.wrap (y':Int)=_;rw[Ua];omega
 rintro _ _ ⟨rfl,rfl⟩;have e8:((UInt8.ofNat (Tf y')).toNat:Nat)=Tf y':=by rw[UInt8.toNat_ofNat'];exact Hj oo
 rw[e8];generalize Tf y'=l at *
 obtain⟨f,h⟩:=A34 (n:=m') (l:=l) oo q3 k o q1 q2;refine A7 ?_;refine Ad.ax rfl rfl ⟨rfl,m'+l,?_,by omega,by omega,f,h⟩;rw[Ab (n:=(l:Int)) oo oo,Ab oo oo];rfl
theorem A35 (w:World) (x:Nat) (g:x≠0) (e:x<4294967296) :
  Calls prog 208 #[.int .u32 x] w (AJ fun r w'=>w'=w/\∃ s:Nat,r=.int .i64 s/\s<32/\2147483648<=x * 2 ^ s/\x * 2 ^ s<4294967296):=by refine cS func208 ntmps208 ?_;refine A7 ?_;refine .s (oK Po (A0Q w x g e)) ?_;rintro r w1 ⟨rfl,L,rfl,j,k,c,d⟩;refine A7 ?_;refine Ad.ax rfl rfl ⟨rfl,32 - L,?_,by omega,c,d⟩;rw[Ab oo oo];rw[show (32:Int) - (L:Int)=((32 - L:Nat):Int) from by omega]
theorem Sl.upd {w w':World}{v:Value}{xs:List Nat}(h:Sl w v xs) {b:Nat}(d:CE b w w') (c:WM b v):Sl w' v xs:=⟨h.1.upd d c,h.2⟩
theorem CE.drewN {b:Nat}{w w':World}(h:CE b w w') (m:Nat):CE b w (w'.drewN m):=⟨h.os,h.tape,h.output,h.size,h.block⟩
theorem A4j {vs:List Nat}{m v1 v2:Nat}(c:vs[m+1]?=some v1) (d:vs[m]?=some v2) (e:vs.length=m+2):Ah vs=4294967296 * (v1 * 4294967296 ^ m)+v2 * 4294967296 ^ m+Ah (vs.take m):=by
 have a1:=Az c;have a2:=Az d;rw[Bs oo]at a1;rw[a1,a2,Ck];have:v1 * (4294967296 ^ m * 4294967296)=4294967296 * (v1 * 4294967296 ^ m):=by rw[<- Bb,AQ]
 omega
theorem A4k {us:List Nat}{m u0 u1 u2:Nat}(c:us[m+2]?=some u0) (d:us[m+1]?=some u1) (e:us[m]?=some u2) (g:us.length=m+3):Ah us=4294967296 * ((u0 * 4294967296+u1) * 4294967296 ^ m)+u2 * 4294967296 ^ m+Ah (us.take m):=by
 have a0:=Az c;have a1:=Az d;have a2:=Az e;rw[Bs oo]at a0;have p2:(4294967296:Nat) ^ (m+2)=4294967296 ^ m * 4294967296 * 4294967296:=by rw[Ck,Ck]
 rw[a0,a1,a2,p2,Ck,Bw,Dk];have e1:u1 * (4294967296 ^ m * 4294967296)=4294967296 * (u1 * 4294967296 ^ m):=by rw[<- Bb,AQ]
 have e0:u0 * (4294967296 ^ m * 4294967296 * 4294967296)=4294967296 * (u0 * 4294967296 * 4294967296 ^ m):=by rw[<- Bb,AQ _ 4294967296,Bb u0,AQ 4294967296 (4294967296 ^ m)]
 omega
structure A7A (U V v1 v2 u2 high g r:Nat):Prop where
 high:high=g * v1+r
 enough:U<(g+1) * V
 le:g<=4294967297
 r:r<4294967296
theorem Th (w:World) (b off cap m:Nat) (A D:List Value) (us vs:List Nat) (vv:Value) (v1:Nat) (O:Aj 109 w b (A++(us.map Dr++D))) (j:A.length=off) (hu:EB us) (hv:Sl w vv vs) (hn:WM b vv)
  (h6:vs.length=m+2) (km:us.length=m+3) (uq:m<=100000000) (f:vs[m+1]?=some v1) (uy:2147483648<=v1) (k2:Ah us<Ah vs * 4294967296) :
  Calls prog 210 #[.slice (some ⟨b,off,none⟩) (m+3) cap,vv] w
   (AJ fun r w'=>r=.int .u32 ((Ah us / Ah vs:Nat):Int)/\CE b w w'/\∃ us',us'.length=m+3/\EB us'/\Ah us'=Ah us % Ah vs/\Aj 109 w' b (A++(us'.map Dr++D))):=by
 obtain⟨q,d,rfl,_⟩:=hv.form;rw[h6]at hv hn;rw[h6];have uz:=hv.2.get f;have he:vs[m]?=some vs[m]:=by simp
 generalize vs[m]=v2 at he;have ub:=hv.2.get he;have p:us[m+2]?=some us[m+2]:=by simp
 generalize us[m+2]=u0 at p;have kk:=hu.get p;have ha:us[m+1]?=some us[m+1]:=by simp
 generalize us[m+1]=u1 at ha;have k9:=hu.get ha;have hd:us[m]?=some us[m]:=by simp
 generalize us[m]=u2 at hd;have kl:=hu.get hd;have E:=A4j f he h6;have C:=A4k p ha hd km;have hf:=Fm (vs.take m) (hv.2.take m);have h0:=Fm (us.take m) (hu.take m);rw[show (vs.take m).length=m from by simp;omega]at hf;rw[show (us.take m).length=m from by simp;omega]at h0;generalize kd:Ah vs=V at *
 generalize kv:Ah us=U at *
 generalize hR:4294967296 ^ m=R at *
 generalize Ah (vs.take m)=vr at *
 generalize Ah (us.take m)=ur at *
 have ux:u0<=v1:=by
  rcases Dl v1 u0 with h | h
  ·exfalso;have M:(v1+1) * R<=u0 * R:=Bm _ h;have h2:(u0 * 4294967296+u1) * R=4294967296 * (u0 * R)+u1 * R:=by rw[Bw,AQ u0,Bb]
   have h3:(v2+1) * R<=4294967296 * R:=Bm _ ub;rw[Bw,Cf]at M h3;omega
  ·exact h
 generalize hh:u0 * 4294967296+u1=e at *
 have uo:e<18446744073709551616:=by omega
 have e1:IntKind.i64.wrap (((m+2:Nat):Int) - 1)=((m+1:Nat):Int):=by rw[Ab oo oo];omega
 have e2:IntKind.i64.wrap (((m+2:Nat):Int) - 2)=((m:Nat):Int):=by rw[Ab oo oo];omega
 have z:IntKind.u64.wrap (v1:Int)=(v1:Int):=BG oo oo;have hp:=Ho e v1;have ki:=CX e (show v1 > 0 by omega);have kj:(e:Int) / (v1:Int)=((e / v1:Nat):Int):=by simp
 have kh:(e:Int) % (v1:Int)=((e % v1:Nat):Int):=by simp
 have kf:e / v1<=4294967297:=by have:e / v1<4294967298:=Ki oo;omega
 generalize e / v1=g0 at *
 generalize e % v1=r0 at *
 have ka:A7A U V v1 v2 u2 e g0 r0:=⟨by rw[AQ];exact hp.symm,Zj E C h0 kl (by rw[AQ];exact hp.symm) ki,kf,by omega⟩;refine cS func210 ntmps210 ?_;refine Nv ?_;refine .r rfl ?_;refine Nv ?_;refine .r rfl ?_;refine Nv ?_;refine St.quiet Dv kr ?_;refine .run A8 99 rfl ?_;refine QL.br A8 (m+2) (Dr u0) O (IE j p) rfl oo rfl rfl rfl rfl rfl rfl rfl rfl rfl rfl (fun _=>rfl) ?_;intro p1;refine .run A8 99 rfl ?_;refine QL.br A8 (m+1) (Dr u1) O (IE j ha) e1 oo rfl rfl rfl rfl rfl rfl rfl rfl rfl rfl (fun _=>rfl) ?_;intro p2;have eh:Km .or .u64 (IntKind.u64.wrap (IntKind.u64.wrap (u0:Int) * 2 ^ 32)) (IntKind.u64.wrap (u1:Int))=(e:Int):=by rw[BG (n:=(u0:Int)) oo oo,show (u0:Int) * 2 ^ 32=((u0 * 4294967296:Nat):Int) from by rw[Gv];rfl,BG (n:=((u0 * 4294967296:Nat):Int)) (PY _) (Int.ofNat_le.2 (Nat.le_of_lt_succ (N7 kk))),BG (n:=(u1:Int)) oo oo,Pb _ _ (N7 kk) oo,NP,Qb _ _ k9,FD,hh]
 refine QL.as A8 2 (.int .u64 (e:Int)) rfl (by rw[eh]) ?_;refine .run A8 99 rfl ?_;refine QL.nil fun m1=>?_;refine Nv ?_;refine St.quiet Dv kr ?_;refine .run A8 99 rfl ?_;refine QL.elem A8 (m+1) (Dr v1) (hv.drewN m1).1 (hv.get f) e1 rfl rfl rfl rfl rfl rfl rfl rfl rfl rfl (fun _=>rfl) ?_;intro p3;refine .run A8 99 rfl ?_;refine QL.step rfl rfl rfl (fun _=>A0.quo rfl rfl oo (by rw[z];omega)) ?_;rw[z,kj];refine .run A8 99 rfl ?_;refine QL.elem A8 (m+1) (Dr v1) (hv.drewN m1).1 (hv.get f) e1 rfl rfl rfl rfl rfl rfl rfl rfl rfl rfl (fun _=>rfl) ?_;intro p4;refine .run A8 99 rfl ?_;refine QL.step rfl rfl rfl (fun _=>A0.rem rfl rfl oo (by rw[z];omega)) ?_;rw[z,kh,BG (n:=(g0:Int)) oo oo];refine .run A8 99 rfl ?_;refine QL.nil fun m2=>?_;(repeat with_reducible first | refine Ad.ak ?_ | refine Ad.aL ?_);have ko:Ac w ((w.drewN m1).drewN m2):=((Ac.refl w).drewN m1).drewN m2;refine St.cut (fun g:Nat=>[(0,.slice (some ⟨b,off,none⟩) (m+3) cap),(1,.slice q (m+2) d),(5,.int .i64 ((m+2:Nat):Int)),(7,.int .u64 g)]) (fun g w'=>Ac w w'/\g<4294967296/\U<(g+1) * V/\g * V<U+V) ?_ ?_
 ·refine Nv ?_;refine St.loop (fun g:Nat×Nat=>[(0,.slice (some ⟨b,off,none⟩) (m+3) cap),(1,.slice q (m+2) d),(5,.int .i64 ((m+2:Nat):Int)),(7,.int .u64 g.1),(8,.int .u64 g.2)]) (fun g w'=>Ac w w'/\A7A U V v1 v2 u2 e g.1 g.2) (fun g=>g.1) (g0,r0) ⟨rfl,rfl,rfl,rfl,rfl,trivial⟩ ⟨ko,ka⟩ ?_;rintro⟨g,r⟩ w3 ⟨l,hG⟩;obtain⟨N,kb,ku,hl⟩:=hG;dsimp only at N kb ku hl ⊢;have ho:=O.ext l;have h4:=hv.ext l;have down:0<g->U<g * V->e=(g - 1) * v1+(r+v1)/\U<(g - 1+1) * V:=by intro hg k3;obtain⟨k,rfl⟩:∃ k,g=k+1:=⟨g - 1,by omega⟩;rw[Bw,Cf]at N;exact⟨by simp only[TM];omega,by simpa using k3⟩
  refine Nv ?_;refine St.quiet Dv kr ?_;by_cases hr:4294967296<=g
  ·have hs:U<g * V:=CW k2 (by rw[AQ];exact Bm _ hr);obtain⟨I,J⟩:=down oo hs;refine QL.as A8 3 (.bool true) rfl (by congr 1;simp;omega) ?_;refine .run A8 99 rfl ?_;refine QL.nil fun m3=>?_;refine Nv ?_;refine .ct ?_;refine Af.elem A8 (m+1) (Dr v1) (h4.drewN m3).1 (hv.get f) e1 rfl rfl rfl rfl rfl rfl rfl rfl rfl rfl (fun _=>rfl) ?_;intro p5;have er:IntKind.u64.wrap ((r:Int)+IntKind.u64.wrap (v1:Int))=((r+v1:Nat):Int):=by rw[z,BG oo oo];rfl
   have eg:IntKind.u64.wrap ((g:Int) - 1)=((g - 1:Nat):Int):=by rw[BG oo oo];omega
   refine .a 2 (.int .u64 ((r+v1:Nat):Int)) rfl (by rw[er]) ?_;rw[eg];refine A7 ?_;by_cases kx:4294967296<=r+v1
   ·refine St.aD rfl (by simp;omega) ?_;have Y:g - 1<4294967296:=by
     rcases Dl (g - 1) 4294967296 with h | h
     ·exact h
     ·exfalso;have:4294967296 * v1<=(g - 1) * v1:=Bm _ h;omega
    refine St.exit ?_;(repeat with_reducible refine Ad.aR ?_);refine Ad.bD rfl ?_;(repeat with_reducible refine Ad.aR ?_);refine Ad.aV (Ad.met (g - 1) ⟨rfl,rfl,rfl,rfl,trivial⟩ ⟨l.drewN m3,Y,J,?_⟩);refine Pq E C hf oo Y I ?_;have h5:(g - 1) * v2<=4294967295 * 4294967295:=Dg oo oo;omega
   ·refine St.ay rfl (by simp;omega) ?_;refine Nv ?_;exact Ad.again (g - 1,r+v1) ⟨rfl,rfl,rfl,rfl,rfl,trivial⟩ ⟨l.drewN m3,I,J,by simp only;omega,by simp only;omega⟩ (by simp only;omega)
  ·have k0:g * v2<=4294967295 * 4294967295:=Dg oo oo;refine QL.as A8 3 (.bool false) rfl (by congr 1;simp;omega) ?_;refine .run A8 99 rfl ?_;refine QL.elem A8 m (Dr v2) h4.1 (hv.get he) e2 rfl rfl rfl rfl rfl rfl rfl rfl rfl rfl (fun _=>rfl) ?_;intro p5;have ks:IntKind.u64.wrap ((g:Int) * IntKind.u64.wrap (v2:Int))=((g * v2:Nat):Int):=by rw[BG (n:=(v2:Int)) oo oo,show (g:Int) * (v2:Int)=((g * v2:Nat):Int) from by simp];generalize g * v2=t at k0;exact BG oo oo
   refine QL.as A8 2 (.int .u64 ((g * v2:Nat):Int)) rfl (by rw[ks]) ?_;refine .run A8 99 rfl ?_;refine QL.br A8 m (Dr u2) ho (IE j hd) e2 oo rfl rfl rfl rfl rfl rfl rfl rfl rfl rfl (fun _=>rfl) ?_;intro p6;have kt:Km .or .u64 (IntKind.u64.wrap ((r:Int) * 2 ^ 32)) (IntKind.u64.wrap (u2:Int))=((r * 4294967296+u2:Nat):Int):=by rw[show (r:Int) * 2 ^ 32=((r * 4294967296:Nat):Int) from by rw[Gv];rfl,BG (n:=((r * 4294967296:Nat):Int)) (PY _) (Int.ofNat_le.2 (Nat.le_of_lt_succ (N7 hl))),BG (n:=(u2:Int)) oo oo,Pb _ _ (N7 hl) oo,NP,Qb _ _ kl,FD]
   refine QL.as A8 2 (.int .u64 ((r * 4294967296+u2:Nat):Int)) rfl (by rw[kt]) ?_;by_cases Z:r * 4294967296+u2<g * v2
   ·have hs:=A0P E C h0 N Z;have kg:0<g:=by
     rcases Gu g with h | h
     ·subst h;simp at Z
     ·exact h
    obtain⟨I,J⟩:=down kg hs;refine QL.as A8 1 (.bool true) rfl (Aa (Int.ofNat_lt.2 Z)) ?_;refine .run A8 99 rfl ?_;refine QL.nil fun m3=>?_;refine Nv ?_;refine .ct ?_;refine Af.elem A8 (m+1) (Dr v1) (h4.drewN m3).1 (hv.get f) e1 rfl rfl rfl rfl rfl rfl rfl rfl rfl rfl (fun _=>rfl) ?_;intro p7;have er:IntKind.u64.wrap ((r:Int)+IntKind.u64.wrap (v1:Int))=((r+v1:Nat):Int):=by rw[z,BG oo oo];rfl
    have eg:IntKind.u64.wrap ((g:Int) - 1)=((g - 1:Nat):Int):=by rw[BG oo oo];omega
    refine .a 2 (.int .u64 ((r+v1:Nat):Int)) rfl (by rw[er]) ?_;rw[eg];refine A7 ?_;by_cases kx:4294967296<=r+v1
    ·refine St.aD rfl (by simp;omega) ?_;refine St.exit ?_;(repeat with_reducible refine Ad.aR ?_);refine Ad.bD rfl ?_;(repeat with_reducible refine Ad.aR ?_);refine Ad.aV (Ad.met (g - 1) ⟨rfl,rfl,rfl,rfl,trivial⟩ ⟨l.drewN m3,by omega,J,?_⟩);refine Pq E C hf oo oo I ?_;have h5:(g - 1) * v2<=4294967295 * 4294967295:=Dg oo oo;omega
    ·refine St.ay rfl (by simp;omega) ?_;refine Nv ?_;exact Ad.again (g - 1,r+v1) ⟨rfl,rfl,rfl,rfl,rfl,trivial⟩ ⟨l.drewN m3,I,J,by simp only;omega,by simp only;omega⟩ (by simp only;omega)
   ·refine QL.as A8 1 (.bool false) rfl (A9 (fun h=>Z (Int.ofNat_lt.1 h))) ?_;refine .run A8 99 rfl ?_;refine QL.nil fun m3=>?_;refine Nv ?_;refine .cF ?_;refine St.exit (Ad.aR (Ad.aR (Ad.aV (Ad.met g ⟨rfl,rfl,rfl,rfl,trivial⟩ ⟨l.drewN m3,by omega,kb,?_⟩))));exact Pq E C hf oo oo N oo
 rintro g w3 ⟨l,Y,hr,kz⟩;have ho:=O.ext l;have ua:CE b w w3:=l.upd b;clear ka kf hp ki kj kh ko eh;refine A7 ?_;refine St.loop (fun s:Nat×Nat×Nat×List Nat=>[(0,.slice (some ⟨b,off,none⟩) (m+3) cap),(1,.slice q (m+2) d),(5,.int .i64 ((m+2:Nat):Int)),(7,.int .u64 g),(9,.int .u64 s.2.1),(10,.int .u64 s.2.2.1),(82,.int .i64 ((m+2:Nat):Int)),(83,.int .i64 s.1)])
  (fun s w'=>CE b w w'/\Aj 109 w' b (A++(s.2.2.2.map Dr++D))/\s.2.2.2.length=m+3/\EB s.2.2.2/\s.2.2.2.drop s.1=us.drop s.1/\s.2.1<4294967296/\s.2.2.1<=1/\s.1<=m+2/\Ah (s.2.2.2.take s.1)+g * Ah (vs.take s.1)=Ah (us.take s.1)+(s.2.1+s.2.2.1) * 4294967296 ^ s.1)
  (fun s=>m+2 - s.1) (0,0,0,us) ⟨rfl,rfl,rfl,rfl,rfl,rfl,rfl,rfl,trivial⟩ ⟨ua,ho,km,hu,rfl,by simp,by simp,by simp,by simp[Ah]⟩ ?_
 rintro⟨i,c,bo,ws⟩ w4 ⟨hw,F,hk,B,P,hc,kw,hi,X⟩;dsimp only at F hk B P hc kw hi X ⊢;have uc:=hv.upd hw hn;by_cases k4:i<m+2
 ·have u:vs[i]?=some vs[i]:=by simp
  generalize vs[i]=y at u;have kq:=hv.2.get u;have o:ws[i]?=some ws[i]:=by simp
  generalize ws[i]=x at o;have ug:=B.get o;have h8:us[i]?=some x:=by rw[<- M4?_of_drop P AO];exact o
  have ke:=Rw hc Y kq (show (0:Nat)<4294967296 by decide);rw[Ep]at ke;refine Nv ?_;refine .a 1 (.bool true) rfl (Aa oo) ?_;refine Nv ?_;refine .ct ?_;refine Af.elem A8 i (Dr y) uc.1 (hv.get u) rfl rfl rfl rfl rfl rfl rfl rfl rfl rfl rfl (fun _=>rfl) ?_;intro p8;have ec:IntKind.u64.wrap ((c:Int)+IntKind.u64.wrap ((g:Int) * IntKind.u64.wrap (y:Int)))=((c+g * y:Nat):Int):=by rw[BG (n:=(y:Int)) oo oo,show (g:Int) * (y:Int)=((g * y:Nat):Int) from by simp];generalize g * y=t at ke;rw[BG (n:=(t:Int)) oo oo,BG oo oo];rfl
  refine .a 3 (.int .u64 ((c+g * y:Nat):Int)) rfl (by rw[ec]) ?_;have k8:=Zk (Ah (ws.take i)) (Ah (us.take i)) (Ah (vs.take i)) (4294967296 ^ i) g c bo x y ((x+8589934592 - (c+g * y) % 4294967296 - bo) % 4294967296) ((c+g * y) % 4294967296) ((c+g * y) / 4294967296) (if x<(c+g * y) % 4294967296+bo then 1 else 0) X oo (by split <;> omega);generalize c+g * y=T at *
  refine A7 ?_;refine Af.br A8 i (Dr x) F (IE j o) rfl oo rfl rfl rfl rfl rfl rfl rfl rfl rfl rfl (fun _=>rfl) ?_;intro p9;have et:IntKind.u64.wrap (IntKind.u64.wrap (IntKind.u64.wrap (x:Int) - IntKind.u64.wrap (IntKind.u32.wrap (T:Int))) - (bo:Int))=IntKind.u64.wrap ((x:Int) - ((T % 4294967296:Nat):Int) - (bo:Int)):=by simp only[Cz,CJ];omega
  refine .a 7 (.int .u64 (IntKind.u64.wrap ((x:Int) - ((T % 4294967296:Nat):Int) - (bo:Int)))) rfl (by rw[et]) ?_;have ut:T % 4294967296<4294967296:=CX _ de;generalize T % 4294967296=lo at *
  refine A7 ?_;have e3:IntKind.u32.wrap (IntKind.u64.wrap ((x:Int) - (lo:Int) - (bo:Int)))=(((x+8589934592 - lo - bo) % 4294967296:Nat):Int):=by simp only[CJ,Cz];omega
  refine Af.put A8 i F rfl oo (by simp;omega) rfl rfl rfl rfl rfl rfl rfl rfl (fun _=>rfl) (fun _=>rfl) rfl rfl ?_;intro u3 w5 v hx;rw[e3,O9 j oo]at v;refine A7 ?_;refine Ad.again (i+1,T / 4294967296,(if x<lo+bo then 1 else 0),ws.set i ((x+8589934592 - lo - bo) % 4294967296)) ⟨rfl,rfl,rfl,rfl,?_,?_,rfl,?_,trivial⟩ ⟨hw.trans hx,v,by simpa using hk,B.set _ (CX _ de),Kt P,by simp only;omega,by simp only;split <;> omega,by simp only;omega,?_⟩ (by simp only;omega)
  ·show some (Value.int .u64 ((T:Int) / 2 ^ 32))=some (Value.int .u64 ((T / 4294967296:Nat):Int));rw[show (T:Int) / 2 ^ 32=((T / 4294967296:Nat):Int) from by omega]
  ·show some (Value.int .u64 (IntKind.u64.wrap ((x:Int) - (lo:Int) - (bo:Int)) / 2 ^ 63))=some (Value.int .u64 ((if x<lo+bo then 1 else 0:Nat):Int));congr 2;rw[Cz];split <;> omega
  ·show some (Value.int .i64 (IntKind.i64.wrap ((i:Int)+1)))=_;rw[Ab oo oo];rfl
  ·simp only;rw[Cs oo,Az h8,Az u,Ck];exact k8
 obtain rfl:i=m+2:=by omega
 clear k4 hi;rw[Bs (show vs.length<=m+2 by omega),kd]at X;have uf:ws[m+2]?=some u0:=by rw[M4?_of_drop P AO];exact p
 have kc:=Az p;rw[Bs oo,kv]at kc;refine Nv ?_;refine .a 1 (.bool false) rfl (A9 oo) ?_;refine Nv ?_;refine .cf ?_;refine Af.br A8 (m+2) (Dr u0) F (IE j uf) rfl oo rfl rfl rfl rfl rfl rfl rfl rfl rfl rfl (fun _=>rfl) ?_;intro u4;have et:IntKind.u64.wrap (IntKind.u64.wrap (IntKind.u64.wrap (u0:Int) - (c:Int)) - (bo:Int))=IntKind.u64.wrap ((u0:Int) - (c:Int) - (bo:Int)):=by simp only[Cz];omega
 refine .a 5 (.int .u64 (IntKind.u64.wrap ((u0:Int) - (c:Int) - (bo:Int)))) rfl (by rw[et]) ?_;refine A7 ?_;have e3:IntKind.u32.wrap (IntKind.u64.wrap ((u0:Int) - (c:Int) - (bo:Int)))=(((u0+8589934592 - c - bo) % 4294967296:Nat):Int):=by simp only[CJ,Cz];omega
 refine Af.put A8 (m+2) F rfl oo (by simp;omega) rfl rfl rfl rfl rfl rfl rfl rfl (fun _=>rfl) (fun _=>rfl) rfl rfl ?_;intro u5 w5 v hx;rw[e3,O9 j oo]at v;have kn:=hw.trans hx;have hj:=Cs (us:=ws) (k:=m+2) oo ((u0+8589934592 - c - bo) % 4294967296);rw[Bs (by simp;omega)]at hj;have hS:=Fm (ws.take (m+2)) (B.take _);rw[show (ws.take (m+2)).length=m+2 from by simp;omega]at hS;generalize hW:4294967296 ^ (m+2)=W at *
 generalize um:Ah (ws.take (m+2))=S at *
 generalize Ah (us.take (m+2))=Un at *
 by_cases k5:u0<c+bo
 ·have ht:(u0+8589934592 - c - bo) % 4294967296=u0+4294967296 - (c+bo):=by omega
  rw[ht]at hj v;obtain⟨kg,un,k7,hM⟩:=A6r X kc hj k5 oo kz hS;have hm:U=(g - 1) * V+(U - (g - 1) * V):=by omega
  have K:=Ry hm k7;generalize h7:ws.set (m+2) (u0+4294967296 - (c+bo))=xs at *
  have uh:xs.length=m+3:=by rw[<- h7];simpa using hk
  have ui:EB xs:=by rw[<- h7];exact B.set _ oo
  have kp:xs[m+2]?=some (u0+4294967296 - (c+bo)):=by rw[<- h7];exact Bx oo
  have uj:=Az kp;rw[Bs oo,hW]at uj;generalize uw:u0+4294967296 - (c+bo)=tp at *
  have ez:IntKind.u64.wrap ((u0:Int) - (c:Int) - (bo:Int))=((18446744073709551616+u0 - (c+bo):Nat):Int):=by rw[Cz];omega
  rw[ez];refine A7 ?_;refine St.ay rfl (by simp;omega) ?_;refine A7 ?_;refine St.loop (fun s:Nat×Nat×List Nat=>[(0,.slice (some ⟨b,off,none⟩) (m+3) cap),(1,.slice q (m+2) d),(5,.int .i64 ((m+2:Nat):Int)),(7,.int .u64 g),(9,.int .u64 s.2.1),(135,.int .i64 ((m+2:Nat):Int)),(136,.int .i64 s.1)])
   (fun s w'=>CE b w w'/\Aj 109 w' b (A++(s.2.2.map Dr++D))/\s.2.2.length=m+3/\EB s.2.2/\s.2.2.drop s.1=xs.drop s.1/\s.2.1<=1/\s.1<=m+2/\Ah (s.2.2.take s.1)+s.2.1 * 4294967296 ^ s.1=Ah (xs.take s.1)+Ah (vs.take s.1))
   (fun s=>m+2 - s.1) (0,0,xs) ⟨rfl,rfl,rfl,rfl,rfl,rfl,rfl,trivial⟩ ⟨kn,v,uh,ui,rfl,by simp,by simp,by simp[Ah]⟩ ?_
  rintro⟨i,cy,zs⟩ w6 ⟨hy,G,h9,L,Q,ky,k1,hq⟩;dsimp only at G h9 L Q ky k1 hq ⊢;have ud:=hv.upd hy hn;by_cases uu:i<m+2
  ·have u:vs[i]?=some vs[i]:=by simp
   generalize vs[i]=y at u;have kq:=hv.2.get u;have o:zs[i]?=some zs[i]:=by simp
   generalize zs[i]=x at o;have ug:=L.get o;have h8:xs[i]?=some x:=by rw[<- M4?_of_drop Q AO];exact o
   refine Nv ?_;refine .a 1 (.bool true) rfl (Aa oo) ?_;refine Nv ?_;refine .cT ?_;refine Nv ?_;refine .r rfl ?_;refine Nv ?_;refine St.quiet Dv kr ?_;refine .run A8 99 rfl ?_;refine QL.br A8 i (Dr x) G (IE j o) rfl oo rfl rfl rfl rfl rfl rfl rfl rfl rfl rfl (fun _=>rfl) ?_;intro u6;refine .run A8 99 rfl ?_;refine QL.elem A8 i (Dr y) ud.1 (hv.get u) rfl rfl rfl rfl rfl rfl rfl rfl rfl rfl rfl (fun _=>rfl) ?_;intro u7;have ea:IntKind.u64.wrap ((cy:Int)+IntKind.u64.wrap (IntKind.u64.wrap (x:Int)+IntKind.u64.wrap (y:Int)))=((cy+x+y:Nat):Int):=by simp only[Cz];omega
   refine QL.as A8 3 (.int .u64 ((cy+x+y:Nat):Int)) rfl (by rw[ea]) ?_;refine .run A8 99 rfl ?_;refine QL.nil fun m6=>?_;refine A7 ?_;have e4:IntKind.u32.wrap ((cy+x+y:Nat):Int)=(((cy+x+y) % 4294967296:Nat):Int):=by rw[CJ];omega
   refine Af.put A8 i (G.drewN m6) rfl oo (by simp;omega) rfl rfl rfl rfl rfl rfl rfl rfl (fun _=>rfl) (fun _=>rfl) rfl rfl ?_;intro u8 w7 H hz;rw[e4,O9 j oo]at H;refine A7 ?_;refine Ad.again (i+1,(cy+x+y) / 4294967296,zs.set i ((cy+x+y) % 4294967296)) ⟨rfl,rfl,rfl,rfl,?_,rfl,?_,trivial⟩ ⟨(hy.drewN m6).trans hz,H,by simpa using h9,L.set _ (CX _ de),Kt Q,by simp only;omega,by simp only;omega,?_⟩ (by simp only;omega)
   ·show some (Value.int .u64 (((cy+x+y:Nat):Int) / 2 ^ 32))=some (Value.int .u64 (((cy+x+y) / 4294967296:Nat):Int));rw[show ((cy+x+y:Nat):Int) / 2 ^ 32=(((cy+x+y) / 4294967296:Nat):Int) from by omega]
   ·show some (Value.int .i64 (IntKind.i64.wrap ((i:Int)+1)))=_;rw[Ab oo oo];rfl
   ·simp only;rw[Cs oo,Az h8,Az u,Ck];exact Qr _ _ _ _ _ _ _ _ _ hq oo
  obtain rfl:i=m+2:=by omega
  rw[Bs (show vs.length<=m+2 by omega),kd,hW]at hq;have ul:zs[m+2]?=some tp:=by rw[M4?_of_drop Q AO];exact kp
  have uk:=Fm (zs.take (m+2)) (L.take _);rw[show (zs.take (m+2)).length=m+2 from by simp;omega,hW]at uk;have k6:tp+cy=4294967296:=by
   have M:(tp+cy) * W=tp * W+cy * W:=Bw _ _ _;rcases Dl (tp+cy) 4294967296 with h | h
   ·exfalso;have:(tp+cy+1) * W<=4294967296 * W:=Bm _ h;rw[Bw,Cf]at this;omega
   ·omega
  refine Nv ?_;refine .a 1 (.bool false) rfl (A9 oo) ?_;refine Nv ?_;refine .cf ?_;refine Af.br A8 (m+2) (Dr tp) G (IE j ul) rfl oo rfl rfl rfl rfl rfl rfl rfl rfl rfl rfl (fun _=>rfl) ?_;intro p16;refine .a 3 (Dr 0) rfl (by simp only[CJ];congr 1;omega) ?_;refine Af.put A8 (m+2) G rfl oo (by simp;omega) rfl rfl rfl rfl rfl rfl rfl rfl (fun _=>rfl) (fun _=>rfl) rfl rfl ?_;intro u9 w7 H hz;rw[O9 j oo]at H;refine A7 ?_;refine uR ⟨?_,hy.trans hz,_,by simpa using h9,L.set _ de,?_,H⟩
  ·rw[K.1,BG oo oo,Hs oo oo];rw[show (g:Int) - 1=((g - 1:Nat):Int) from by omega]
  ·rw[K.2];have ue:=Cs (us:=zs) (k:=m+2) oo 0;rw[Bs (by simp;omega)]at ue;have M:(tp+cy) * W=tp * W+cy * W:=Bw _ _ _;rw[k6]at M;omega
 ·have ht:(u0+8589934592 - c - bo) % 4294967296=u0 - (c+bo):=by omega
  rw[ht]at hj v;have uv:(u0 - (c+bo)) * W=u0 * W - (c+bo) * W:=Nat.sub_mul _ _ _;have up:(c+bo) * W<=u0 * W:=Bm _ oo;have hm:U=g * V+Ah (ws.set (m+2) (u0 - (c+bo))):=by omega
  have K:=Ry hm (by rw[Bw,Cf]at hr;omega);have ez:IntKind.u64.wrap ((u0:Int) - (c:Int) - (bo:Int))=((u0 - (c+bo):Nat):Int):=by rw[BG oo oo];omega
  rw[ez];refine A7 ?_;refine St.aD rfl (by simp;omega) ?_;refine A7 ?_;refine uR ⟨?_,kn,_,by simpa using hk,B.set _ oo,?_,v⟩
  ·rw[K.1,Hs oo oo]
  ·rw[K.2]
end Go.Qf
namespace Go.Qf
theorem A6s {xs:List Nat}{x:Nat}(h:xs.length=1) (c:xs[0]?=some x):Ah xs=x:=by
 match xs,h with
 | [y],_=>simp at c;simp[Ah,c]
theorem JZ {xs:List Nat}{k x:Nat}(d:xs[k]?=some x):Ah (xs.take (k+1))=Ah (xs.take k)+x * 4294967296 ^ k:=by
 have c:k<xs.length:=(Au.1 d).1;rw[DA c,FI];have:xs[k]=x:=by rw[DH c]at d;exact Ir d
 simp[Ah,this,H8 (NQ c),AQ]
theorem A0R {c m s tp:Nat}{ds:List Nat}(w:(Ae c).length=m+2) (i:(Ae c)[m+1]?=some tp) (A:s<32) (f:2147483648<=tp * 2 ^ s) (j:tp * 2 ^ s<4294967296) (x:ds.length=m+3) (t:EB ds) (hv:Ah ds=c * 2 ^ s) :
  Ah (ds.take (m+2))=c * 2 ^ s/\c * 2 ^ s<4294967296 ^ (m+2)/\2147483648 * 4294967296 ^ (m+1)<=c * 2 ^ s/\∃ v1,(ds.take (m+2))[m+1]?=some v1/\2147483648<=v1:=by
 have a:0<2 ^ s:=EM de;have hB:4294967296=2 ^ s * 2 ^ (32 - s):=by rw[<- Df,show s+(32 - s)=32 from by omega]
 have p:(0:Nat)<4294967296 ^ (m+1):=EM de;have v:=JZ i;rw[Bs oo,Al]at v;have y:=Fm ((Ae c).take (m+1)) ((KQ c).take _);rw[show ((Ae c).take (m+1)).length=m+1 from by simp;omega]at y;generalize Ah ((Ae c).take (m+1))=cr at *
 have n:(tp+1) * 2 ^ s<=4294967296:=by rw[hB]at j ⊢;rw[AQ (2 ^ s)]at j ⊢;exact Bm _ (Nat.lt_of_mul_lt_mul_right j)
 have b:(4294967296:Nat) ^ (m+2)=4294967296 * 4294967296 ^ (m+1):=by rw[Ck,AQ]
 generalize k:(4294967296:Nat) ^ (m+1)=W at *
 have u:c * 2 ^ s<4294967296 ^ (m+2):=by rw[b];have d:c * 2 ^ s<((tp+1) * W) * 2 ^ s:=Nat.mul_lt_mul_of_pos_right (by rw[Bw,Cf];omega) a;have e:((tp+1) * W) * 2 ^ s=((tp+1) * 2 ^ s) * W:=Nat.mul_right_comm _ _ _;have q:((tp+1) * 2 ^ s) * W<=4294967296 * W:=Bm _ n;omega
 have r:2147483648 * W<=c * 2 ^ s:=by have d:(tp * W) * 2 ^ s<=c * 2 ^ s:=Bm _ oo;have e:(tp * W) * 2 ^ s=(tp * 2 ^ s) * W:=Nat.mul_right_comm _ _ _;have q:2147483648 * W<=(tp * 2 ^ s) * W:=Bm _ f;omega
 have l:ds[m+2]?=some ds[m+2]:=by simp
 generalize ds[m+2]=d2 at l;have z:=JZ l;rw[Bs oo,hv]at z;have o:Ah (ds.take (m+2))=c * 2 ^ s:=by
  have:d2=0:=by
   rcases Gu d2 with h | h
   ·exact h
   ·exfalso;have:1 * 4294967296 ^ (m+2)<=d2 * 4294967296 ^ (m+2):=Bm _ h;omega
  subst this;omega
 refine⟨o,u,r,?_⟩;have g:ds[m+1]?=some ds[m+1]:=by simp
 generalize ds[m+1]=d1 at g;refine⟨d1,by rw[Dz oo];exact g,?_⟩;have d:=JZ g;rw[show m+1+1=m+2 from rfl,o,k]at d;have e:=Fm (ds.take (m+1)) (t.take _);rw[show (ds.take (m+1)).length=m+1 from by simp;omega,k]at e;rcases Dl d1 2147483648 with h | h
 ·exfalso;have:(d1+1) * W<=2147483648 * W:=Bm _ h;rw[Bw,Cf]at this;omega
 ·exact h
theorem Zl {a t m s V:Nat}{rs:List Nat}(j:a<4294967296 ^ (m+2+t)) (r:s<32) (o:2147483648 * 4294967296 ^ (m+1)<=V) (q:rs.length=m+2+t+1) (hv:Ah rs=a * 2 ^ s):Ah (rs.drop (t+1))<V:=by
 have c:=I0 rs (t+1);rw[show min (t+1) rs.length=t+1 from by omega,hv]at c;have k:(2:Nat) ^ s<=2147483648:=DB de (show s<=31 by omega);have d:a * 2 ^ s<4294967296 ^ (m+2+t) * 2147483648:=by have l:0<2 ^ s:=EM de;exact CW (Nat.mul_lt_mul_of_pos_right j l) (HV _ k)
 have e:(4294967296:Nat) ^ (m+2+t)=4294967296 ^ (t+1) * 4294967296 ^ (m+1):=by rw[<- Df];congr 1;omega
 rw[e,Bb,AQ _ 2147483648]at d;have g:4294967296 ^ (t+1) * Ah (rs.drop (t+1))<4294967296 ^ (t+1) * (2147483648 * 4294967296 ^ (m+1)):=by omega
 have:=Nat.lt_of_mul_lt_mul_left g;omega
theorem A6t {rs:List Nat}{j m V x:Nat}(c:rs[j]?=some x) (o:j+m+3<=rs.length) (q:Ah (rs.drop (j+1))<V) (l:V<4294967296 ^ (m+2)) :
  Ah ((rs.drop j).take (m+3))=Ah (rs.drop j)/\Ah (rs.drop (j+m+3))=0/\Ah (rs.drop j)=x+4294967296 * Ah (rs.drop (j+1)):=by
 have d:j<rs.length:=(Au.1 c).1;have e0:rs.drop j=x::rs.drop (j+1):=by rw[DH d]at c;rw[ED d,Ir c]
 have g:=I0 (rs.drop (j+1)) (m+2);rw[show min (m+2) (rs.drop (j+1)).length=m+2 from by simp;omega,Hl,show j+1+(m+2)=j+m+3 from by omega]at g;have e:Ah (rs.drop (j+m+3))=0:=by
  rcases Gu (Ah (rs.drop (j+m+3))) with h | h
  ·exact h
  ·exfalso;have:4294967296 ^ (m+2) * 1<=4294967296 ^ (m+2) * Ah (rs.drop (j+m+3)):=HV _ h;omega
 have k:=I0 (rs.drop j) (m+3);rw[Hl,show j+(m+3)=j+m+3 from by omega,e]at k;refine⟨by omega,e,?_⟩;rw[e0];rfl
end Go.Qf
namespace Go.Qf
open Go Go.RowKit Go.Proofs Go.Proofs.Tryz
variable {base i c cap:Nat}{xs:List Nat}{D:List Value}
theorem Ei.opened {w:World}{v:Value}(h:Ei base w v xs) (d:xs≠[]):∃ g cap D,v=.slice (some ⟨g,0,none⟩) xs.length cap/\base<=g/\Aj 109 w g ([]++(xs.map Dr++D))/\cap=xs.length+D.length/\cap<=maxLen:=by
 obtain⟨⟨_,c⟩,_⟩:=h;rcases c with ⟨_,h0⟩ | ⟨g,cap,cur,hv,hg,hh,hn,hm,hs,ht⟩
 ·simp at h0;exact absurd h0 d
 ·simp only[Bj,LB]at hv hn hs ht;refine⟨g,cap,cur.toList.drop xs.length,hv,hg,?_,?_,hm⟩
  ·unfold Aj;rw[hh,HX,<- ht];simp
  ·simp;omega
theorem Ei.closed {w:World}{us:List Nat}{g len:Nat}(c:Aj 109 w g ([]++(us.map Dr++D))) (e:EB us) (j:len=us.length) (d:base<=g) (l:cap=us.length+D.length) (k:cap<=maxLen):Ei base w (.slice (some ⟨g,0,none⟩) len cap) us:=by
 refine⟨⟨by simp,.inr ⟨g,cap,(us.map Dr++D).toArray,?_,d,?_,?_,k,?_,?_⟩⟩,e⟩
 ·simp[j]
 ·simpa[Aj] using c
 ·simp;omega
 ·simp;omega
 ·simp
theorem Wo {x:Nat}(j:(Ae c)[i]?=some x) (k:(Ae c).length=i+1):x≠0:=by
 intro e;subst e;have g:Ah (Ae c)=Ah ((Ae c).take i):=by have:=Az j;rw[Bs oo]at this;simpa using this
 have d:=Ap ((Ae c).take i) ((KQ c).take i);rw[<- g,Al]at d;simp at d;omega
theorem Sw (w:World) (u v:Value) (a c:Nat) (h:Sl w u (Ae a)) (k:Sl w v (Ae c)) (uz:(Ae a).length<=10000000) (hl:(Ae c).length<=10000000) (kt:c≠0) :
  Calls prog 171 #[u,v] w (AJ fun r w'=>Ac w w'/\∃ q rm,r=.tuple #[q,rm]/\Ei w.heap.size w' q (Ae (a / c))/\Ei w.heap.size w' rm (Ae (a % c))):=by
 have A:Ah (Ae a)=a:=Al a;have N:Ah (Ae c)=c:=Al c;have kv:Ae c≠[]:=fun e=>kt (CQ.1 e);have uy:0<(Ae c).length:=List.length_pos_iff.2 kv;obtain⟨p,ca,rfl,_⟩:=h.form;obtain⟨q,cb,rfl,_⟩:=k.form;refine cS func171 ntmps171 ?_;refine A7 ?_;refine .s (Av.call Fp rfl (Jd w _ _ a c h k oo oo)) ?_;rintro _ w1 ⟨l,rfl⟩;have H:=h.ext l;have k1:=k.ext l;by_cases I:a<c
 ·refine .a 1 (.bool true) rfl (Aa (by simp[GY,I])) ?_;refine A7 ?_;refine .ct ?_;refine .s (Av.call Bu rfl (M3 w1 _ _ H oo)) ?_;rintro r w2 ⟨P,hr⟩;refine A7 ?_;refine Ad.bI rfl rfl rfl ⟨l.trans P,_,_,rfl,?_,?_⟩
  ·rw[J5 I];exact Ei.nil _ _
  ·rw[Hj I];exact hr.mono l.size
 refine .a 1 (.bool false) rfl (A9 (by unfold GY;rw[if_neg I];split <;> decide)) ?_;have u0:(Ae c).length<=(Ae a).length:=AA c a oo;refine A7 ?_;refine .cf ?_;by_cases O:(Ae a).length<=2
 ·have hq:a<18446744073709551616:=by rw[<- A];exact Ew h.2 O
  have uw:c<18446744073709551616:=by rw[<- N];exact Ew k.2 oo
  refine St.aD rfl (by simp;omega) ?_;refine A7 ?_;refine .s (oK DC (I7 w1 _ _ H O)) ?_;rintro r w2 ⟨rfl,rfl⟩;refine .r rfl ?_;refine .s (Av.call DC rfl (I7 _ _ _ k1 oo)) ?_;rintro r w2 ⟨rfl,rfl⟩;rw[A,N];refine .r rfl ?_;refine Nv ?_;have ud:(a:Int) / (c:Int)=((a / c:Nat):Int):=by simp
  have k9:(a:Int) % (c:Int)=((a % c:Nat):Int):=by simp
  have uc:a / c<18446744073709551616:=LL (EN _ _) hq;have k7:a % c<18446744073709551616:=LL (NU _ _) hq;generalize u2:a / c=qq at *
  generalize k8:a % c=mm at *
  refine sD 8 [(28,Is (.int .u64 a)),(29,Is (.int .u64 c)),(30,Is (.int .u64 qq)),(31,fun v w'=>Ei w.heap.size w' v (Ae qq)),(32,Is (.int .u64 a)),(33,Is (.int .u64 c)),(34,Is (.int .u64 mm)),(35,fun v w'=>Ei w.heap.size w' v (Ae mm))] ?_ ?_
  ·refine⟨?_,?_,?_,?_,?_,?_,?_,?_,trivial⟩
   ·exact fun w3 d=>oP
   ·exact fun w3 d=>oP
   ·rintro w3 d _ rfl _ rfl;exact CD.run rfl rfl rfl rfl (A0.quo rfl rfl oo oo) (by rw[ud,BG oo oo];rfl)
   ·rintro w3 d _ rfl;refine oC CM (Ey w3 qq uc) ?_;rintro v o ⟨B,he⟩;exact⟨B,he.mono (Ar l.size d.size)⟩
   ·exact fun w3 d=>oP
   ·exact fun w3 d=>oP
   ·rintro w3 d _ rfl _ rfl;exact CD.run rfl rfl rfl rfl (A0.rem rfl rfl oo oo) (by rw[k9];rfl)
   ·rintro w3 d _ rfl;refine oC CM (Ey w3 mm k7) ?_;rintro v o ⟨B,he⟩;exact⟨B,he.mono (Ar l.size d.size)⟩
  rintro w3 d _ _ _ _ _ _ u7 kg _ _ _ _ _ _ u8 kh _;refine .r rfl ?_;refine A7 ?_;exact Ad.bI rfl rfl rfl ⟨l.trans d,_,_,rfl,kg,kh⟩
 refine St.ay rfl (by simp;omega) ?_;refine A7 ?_;by_cases ub:(Ae c).length=1
 ·refine St.aD rfl (by simp;omega) ?_;refine A7 ?_;have km:Ae a≠[]:=fun e=>by rw[e]at O;simp at O
  refine .s (Av.call Bu rfl (M3 w1 _ _ H oo)) ?_;rintro r w2 ⟨P,hr⟩;have k2:=k1.ext P;obtain⟨g,cap,D,rfl,hg,kn,ux,ku⟩:=hr.opened km;have K:(Ae c)[0]?=some (Ae c)[0]:=by simp
  generalize (Ae c)[0]=x at K;have kw:c=x:=N.symm.trans (A6s ub K);subst kw;have kd:=k.2.get K;refine A7 ?_;refine Af.elem A8 0 (Dr c) k2.1 (k2.get K) rfl rfl rfl rfl rfl rfl rfl rfl rfl rfl rfl (fun _=>rfl) ?_;intro p1;refine .r rfl ?_;refine .s (Av.call GJ rfl (Ku w2 g 0 cap c [] D (Ae a) kn rfl h.2 oo oo kd)) ?_;rintro _ w3 ⟨rfl,uq,us,h8,hd,i,ko⟩;rw[A];rw[A]at i;have u1:a % c<4294967296:=Nat.lt_trans (CX _ oo) kd;have uv:Ac w w2:=l.trans P;have d:Ac w w3:=uv.aj uq (Ar l.size hg);have hO:Ei w.heap.size w3 (.slice (some ⟨g,0,none⟩) (Ae a).length cap) us:=Ei.closed ko hd h8.symm (Ar l.size hg) oo ku;refine A7 ?_;refine .s (Av.call AB rfl (BN w3 _ _ hO.sl oo)) ?_;rintro _ o ⟨rfl,rfl,_⟩;have ho:=hO.trimmed;rw[i]at ho ⊢;generalize k8:a % c=mm at *
  refine .a 2 (.int .u64 (mm:Int)) rfl (by rw[BG oo oo]) ?_;refine .s (Av.call CM rfl (Ey _ mm oo)) ?_;rintro rr w5 ⟨C,ug⟩;refine A7 ?_;exact Ad.bI rfl rfl rfl ⟨d.trans C,_,_,rfl,ho.ext C,ug.mono d.size⟩
 refine St.ay rfl (by simp;omega) ?_;obtain⟨m,L⟩:∃ m,(Ae c).length=m+2:=⟨(Ae c).length - 2,by omega⟩;obtain⟨t,ht⟩:∃ t,(Ae a).length=m+2+t:=⟨(Ae a).length - (m+2),by omega⟩;have G:(Ae c)[m+1]?=some (Ae c)[m+1]:=by simp
 generalize (Ae c)[m+1]=tp at G;have up:=k.2.get G;have uo:tp≠0:=Wo G oo;refine A7 ?_;refine Af.elem A8 (m+1) (Dr tp) k1.1 (k1.get G) (by rw[L,Ab oo oo];omega) rfl rfl rfl rfl rfl rfl rfl rfl rfl rfl (fun _=>rfl) ?_;intro p1;refine .s (oK JC (A35 w1 tp uo up)) ?_;rintro _ w2 ⟨rfl,s,rfl,b,uj,uk⟩;refine A7 ?_;refine .s (Av.call IW rfl (N8 _ _ s _ k1 oo b)) ?_;rintro _ w3 ⟨d,rfl,ds,hy,hz,h0,hw⟩;rw[N]at h0;refine .r rfl ?_;refine .p (A0.bp A8 rfl rfl rfl rfl oo oo) ?_;rw[Cj];have h3:=H.ext d;refine A7 ?_;refine .s (Av.call IW rfl (N8 _ _ s _ h3 oo b)) ?_;rintro _ o ⟨B,rfl,ke,u3,ui,hb,hx⟩;rw[A]at hb;refine A7 ?_;have hj:IntKind.i64.wrap (IntKind.i64.wrap (((Ae a).length:Int) - ((Ae c).length:Int))+1)=((t+1:Nat):Int):=by rw[Ab (n:=((Ae a).length:Int) - ((Ae c).length:Int)) oo oo,Ab oo oo];omega
 have kf:IntKind.i64.wrap (((Ae a).length:Int) - ((Ae c).length:Int))=(t:Int):=by rw[Ab oo oo];omega
 refine .s (Av.make A8 (t+1) rfl rfl rfl rfl rfl hj rfl hj (by simp;omega) oo) ?_;rintro _ w5 ⟨rfl,ks,C,_⟩;rw[L]at hy;obtain⟨kb,kl,kk,v1,ur,ut⟩:=A0R L G b uj uk hy hz h0;have u4:w2.heap.size<w3.heap.size:=hw.lt;have u5:w3.heap.size<o.heap.size:=hx.lt;have hf:Ac w o:=(l.trans d).trans B;have uu:Ac w w5:=hf.trans C;have hu:=Fm (Ae a) (KQ a);rw[A,ht]at hu;have k3:=Zl hu b kk oo hb;have ki:0<c * 2 ^ s:=Nat.mul_pos oo (EM de);generalize kj:c * 2 ^ s=V at *
 refine A7 ?_;refine St.loop (fun g:Nat×List Nat×List Nat=>[(1,.slice q (Ae c).length cb),(4,.slice (some ⟨o.heap.size,0,none⟩) (t+1) (t+1)),(9,.int .i64 s),(10,.slice (some ⟨w2.heap.size,0,none⟩) (Ae c).length ((Ae c).length+1)),(11,.slice (some ⟨w3.heap.size,0,none⟩) ((Ae a).length+1) ((Ae a).length+1)),(12,.int .i64 ((g.1:Int) - 1))])
  (fun g w'=>Ac w w'/\Aj 109 w' w3.heap.size (g.2.1.map Dr)/\g.2.1.length=t+m+3/\EB g.2.1/\Aj 109 w' o.heap.size (g.2.2.map Dr)/\g.2.2.length=t+1/\EB g.2.2/\Aj 109 w' w2.heap.size (ds.map Dr)/\g.1<=t+1/\Ah (g.2.1.drop g.1)<V/\Ah ke=Ah g.2.1+(Ah (g.2.2.drop g.1) * 4294967296 ^ g.1) * V)
  (fun g=>g.1) (t+1,ke,List.replicate (t+1) 0) ⟨rfl,rfl,rfl,rfl,rfl,?_,trivial⟩ ⟨uu,hx.ext C,by simp only;omega,ui,by rw[G9];exact ks,by simp,DL _,(hw.ext B).ext C,Ai _,k3,by simp[Ah]⟩ ?_
 ·show some (Value.int .i64 (IntKind.i64.wrap (((Ae a).length:Int) - ((Ae c).length:Int))))=_;rw[kf];simp
 rintro⟨jj,rs,qs⟩ R ⟨kc,J,uh,y,X,h4,ha,U,k5,z,Z⟩;dsimp only at J uh y X h4 ha U k5 z Z ⊢;by_cases k4:jj=0
 ·subst k4;simp only[FE,Nat.pow_zero,LB]at z Z;have h2:a / c=Ah qs/\a % c=Ah rs / 2 ^ s:=by
   have hp:0<2 ^ s:=EM de;have hU:a * 2 ^ s=Ah qs * V+Ah rs:=by rw[<- hb];omega
   obtain⟨q1,q2⟩:=Ry hU z;rw[<- kj]at q1 q2;rw[Nat.mul_div_mul_right _ _ hp]at q1;rw[Nat.mul_mod_mul_right]at q2;exact⟨q1,by rw[<- q2,Nat.mul_div_cancel _ hp]⟩
  refine Nv ?_;refine .a 2 (.bool false) rfl (A9 sm) ?_;refine Nv ?_;refine .cf ?_;have kp:Aj 109 R w3.heap.size ([]++(rs.map Dr++[])):=by simpa using J
  have h7:=Te R w3.heap.size 0 ((Ae a).length+1) s [] [] rs kp rfl y oo b;rw[show rs.length=(Ae a).length+1 from by omega]at h7;refine .s (oK MD h7) ?_;rintro _ F ⟨f,T⟩;have hh:Ac w F:=kc.aj f (by have:=l.size;have:=d.size;omega);have Y:=X.upd f oo;have hk:Ei w.heap.size F (.slice (some ⟨o.heap.size,0,none⟩) (t+1) (t+1)) qs:=⟨Aj.own Y (by simp;omega) hf.size oo,ha⟩;have hn:Ei w.heap.size F (.slice (some ⟨w3.heap.size,0,none⟩) ((Ae a).length+1) ((Ae a).length+1)) (XM s rs):=⟨Aj.own (by simpa using T) (by simp[GA];omega) (l.trans d).size oo,A6p _ _⟩;refine A7 ?_;refine .s (Av.call AB rfl (BN F _ _ hk.sl oo)) ?_;rintro _ w8 ⟨rfl,rfl,_⟩;refine .r rfl ?_;refine .s (Av.call AB rfl (BN _ _ _ hn.sl (by rw[GA];omega))) ?_;rintro _ w8 ⟨rfl,rfl,_⟩;refine A7 ?_;have t1:=hk.trimmed;have t2:=hn.trimmed;rw[A6o s b rs y]at t2 ⊢;rw[<- h2.2]at t2 ⊢;rw[<- h2.1]at t1 ⊢;exact Ad.bI rfl rfl rfl ⟨hh,_,_,rfl,t1,t2⟩
 obtain⟨j,rfl⟩:∃ j,jj=j+1:=⟨jj - 1,by omega⟩;have hi:rs[j]?=some rs[j]:=by simp
 generalize rs[j]=xj at hi;have u6:=y.get hi;obtain⟨h5,ul,h6⟩:=A6t (m:=m) hi oo z kl;have e0:(((j+1:Nat):Int) - 1)=(j:Int):=by omega
 rw[e0];have um:((rs.drop j).take (m+3)).length=m+3:=by simp;omega
 have un:rs.map Dr=(rs.take j).map Dr++(((rs.drop j).take (m+3)).map Dr++(rs.drop (j+m+3)).map Dr):=by rw[<- Ev,<- Ev];congr 1;rw[show j+m+3=j+(m+3) from by omega,<- Hl,Kh,Kh]
 refine Nv ?_;refine .a 2 (.bool true) rfl (Aa oo) ?_;refine Nv ?_;refine .ct ?_;have S:IntKind.i64.wrap (IntKind.i64.wrap ((j:Int)+((Ae c).length:Int))+1)=((j+m+3:Nat):Int):=by rw[Ab (n:=(j:Int)+((Ae c).length:Int)) oo oo,Ab oo oo];omega
 refine .p (A0.cA A8 rfl rfl rfl rfl rfl rfl oo (by rw[S];omega) (by rw[S];omega) oo) ?_;rw[S,show (((j+m+3:Nat):Int).toNat - (j:Int).toNat)=m+3 from by omega,show (0+(j:Int).toNat)=j from by omega];refine .r rfl ?_;have kx:Sl R (.slice (some ⟨w2.heap.size,0,none⟩) (Ae c).length ((Ae c).length+1)) (ds.take (m+2)):=by refine⟨Aj.row U (by simp;omega) oo (by simp;omega) ?_,hz.take _⟩;rw[FE,PU,L]
 rw[un]at J;have k0:=Th R w3.heap.size j ((Ae a).length+1 - (j:Int).toNat) m _ _ _ _ _ v1 J (by simp;omega) ((y.drop j).take (m+3)) kx (fun c' o' s' l' cap' e=>by cases e;omega) (by simp;omega) um oo ur ut (by rw[h5,h6,kb];have:(Ah (rs.drop (j+1))+1) * 4294967296<=V * 4294967296:=Bm _ z;omega)
 refine .s (oK MB k0) ?_;rintro _ F ⟨rfl,f,E,h8,hd,i,T⟩;rw[h5,kb]at i ⊢;have Y:=X.upd f oo;have kr:=U.upd f oo;have hh:Ac w F:=kc.aj f (l.trans d).size;have ue:Ah (rs.drop j) / V<4294967296:=by apply Ki;rw[h6];have:(Ah (rs.drop (j+1))+1) * 4294967296<=V * 4294967296:=Bm _ z;omega
 have ky:=Ho (Ah (rs.drop j)) V;have ua:=CX (Ah (rs.drop j)) ki;generalize Ah (rs.drop j) / V=qd at *
 refine Af.put A8 j Y rfl oo (by simp;omega) rfl rfl rfl rfl rfl rfl rfl rfl (fun _=>rfl) (fun _=>rfl) rfl rfl ?_;intro p3 w8 hv hc;rw[AE,CA]at hv;refine A7 ?_;have kq:Aj 109 w8 w3.heap.size ((rs.take j++(E++rs.drop (j+m+3))).map Dr):=by have:=T.upd hc oo;simpa using this
 have kz:(rs.take j++(E++rs.drop (j+m+3))).drop j=E++rs.drop (j+m+3):=by rw[List.drop_append_of_le_length (by simp;omega),TN (by simp;omega)];simp
 have ka:Ah (E++rs.drop (j+m+3))=Ah E:=by rw[FI,ul];simp
 have k6:(rs.take j).length=j:=by simp;omega
 refine Ad.again (j,rs.take j++(E++rs.drop (j+m+3)),qs.set j qd) ⟨rfl,rfl,rfl,rfl,rfl,?_,trivial⟩ ⟨hh.aj hc hf.size,kq,by simp;omega,(y.take j).append (hd.append (y.drop _)),hv,by simpa using h4,ha.set _ ue,kr.upd hc oo,by simp only;omega,?_,?_⟩ (by simp only;omega)
 ·show some (Value.int .i64 (IntKind.i64.wrap ((j:Int) - 1)))=_;rw[Ab oo oo]
 ·simp only;rw[kz,ka,i];exact ua
 ·simp only;have uf:(qs.set j qd)[j]?=some qd:=Bx oo;rw[Rx uf,List.drop_set_of_lt oo,FI (rs.take j),k6,ka,i,Z];have h9:=I0 rs j;rw[show min j rs.length=j from by omega]at h9;rw[h9];conv=>lhs;rw[<- ky]
  rw[Ck];generalize 4294967296 ^ j=W;generalize Ah (qs.drop (j+1))=Q;generalize Ah (rs.drop j) % V=M;have e1:W * (V * qd+M)=W * M+qd * W * V:=by rw[Dk,FD];congr 1;rw[AQ V,<- Bb,AQ W]
  have e2:(qd+4294967296 * Q) * W * V=qd * W * V+Q * (W * 4294967296) * V:=by rw[Bw,Bw];congr 2;rw[AQ 4294967296,Bb,AQ 4294967296]
  rw[e1,e2];omega
theorem Zm (a b:Nat):Nat.gcd b (a % b)=Nat.gcd a b:=by rw[TP a b,Nat.gcd_rec b a,TP]
theorem Zn (w:World) (u v:Value) (a b:Nat) (h:Sl w u (Ae a)) (k:Sl w v (Ae b)) (G:(Ae a).length<=10000000) (F:(Ae b).length<=10000000) :
  Calls prog 170 #[u,v] w (AJ fun r w'=>Ac w w'/\Ei w.heap.size w' r (Ae (Nat.gcd a b))):=by
 refine cS func170 ntmps170 ?_;refine St.seq (St.region (Af.run A8 99 rfl (Af.nil (Ad.ak ?_))));refine St.cut (fun g:(Value×Value)×Nat×Nat=>[(0,g.1.1),(1,g.1.2)]) (fun g w'=>Ac w w'/\Sl w' g.1.1 (Ae g.2.1)/\Sl w' g.1.2 (Ae g.2.2)/\Nat.gcd g.2.1 g.2.2=Nat.gcd a b/\(Ae g.2.1).length<=2/\(Ae g.2.2).length<=2) ?_ ?_
 ·refine Nv ?_;refine St.loop (fun g:(Value×Value)×Nat×Nat=>[(0,g.1.1),(1,g.1.2)]) (fun g w'=>Ac w w'/\Sl w' g.1.1 (Ae g.2.1)/\Sl w' g.1.2 (Ae g.2.2)/\Nat.gcd g.2.1 g.2.2=Nat.gcd a b/\(Ae g.2.1).length<=10000000/\(Ae g.2.2).length<=10000000) (fun g=>g.2.2) ((u,v),a,b) ⟨rfl,rfl,trivial⟩ ⟨Ac.refl _,h,k,rfl,G,F⟩ ?_;rintro⟨⟨u1,v1⟩,a1,b1⟩ w1 ⟨o,e,k1,l,m,j⟩;dsimp only at e k1 l m j ⊢;obtain⟨p,c,rfl,_⟩:=e.form;obtain⟨q,d,rfl,_⟩:=k1.form;by_cases M:2<(Ae a1).length\/2<(Ae b1).length
  ·refine St.seq (St.cut (fun _:Unit=>[(0,.slice p (Ae a1).length c),(1,.slice q (Ae b1).length d),(16,.bool true)]) (fun _ w'=>w'=w1) ?_ ?_)
   ·refine Nv ?_;by_cases L:2<(Ae a1).length
    ·refine .a 3 (.bool true) rfl (Aa oo) ?_;refine .r rfl ?_;exact Af.nil (Ad.met () ⟨rfl,rfl,rfl,trivial⟩ rfl)
    ·refine .a 3 (.bool false) rfl (A9 oo) ?_;refine .a 4 (.bool true) rfl (Aa oo) ?_;refine .r rfl ?_;exact Af.nil (Ad.met () ⟨rfl,rfl,rfl,trivial⟩ rfl)
   rintro _ w' rfl;refine .ct ?_;by_cases z:b1=0
   ·subst z;refine .ct ?_;refine .s (oK Bu (M3 _ _ _ e oo)) ?_;rintro r w2 ⟨f,H⟩;refine A7 ?_;refine uR ⟨o.trans f,?_⟩;rw[<- l,Nat.gcd_zero_right];exact H.mono o.size
   ·refine St.ay rfl (by simp[CQ,z]) ?_;refine A7 ?_;refine .s (oK Kq (Sw _ _ _ a1 b1 e k1 m j z)) ?_;rintro _ w2 ⟨f,q2,r2,rfl,N,I⟩;have t:=CX a1 (LM z);refine A7 ?_;refine Ad.again ((_,_),b1,a1 % b1) ⟨rfl,rfl,trivial⟩ ⟨o.trans f,k1.ext f,I.sl,by simp only;rw[Zm];exact l,j,Ar (AA _ _ (NQ t)) j⟩ t
  ·refine Nv ?_;refine .a 3 (.bool false) rfl (A9 oo) ?_;refine .a 4 (.bool false) rfl (A9 oo) ?_;refine A7 ?_;refine St.ay rfl rfl (St.exit (Ad.aR (Ad.aR (Ad.aV (Ad.met ((_,_),a1,b1) ⟨rfl,rfl,trivial⟩ ⟨o,e,k1,l,by simp only;omega,by simp only;omega⟩)))))
 rintro⟨⟨u1,v1⟩,a1,b1⟩ w1 ⟨o,e,k1,l,m,j⟩;dsimp only at e k1 l m j ⊢;have D:a1<18446744073709551616:=by rw[<- Al a1];exact Ew e.2 m
 have E:b1<18446744073709551616:=by rw[<- Al b1];exact Ew k1.2 j
 refine A7 ?_;refine .s (oK DC (I7 _ _ _ e m)) ?_;rintro _ w2 ⟨rfl,rfl⟩;refine .r rfl ?_;refine .s (oK DC (I7 _ _ _ k1 j)) ?_;rintro _ w2 ⟨rfl,rfl⟩;rw[Al,Al];refine A7 ?_;refine St.loop (fun g:Nat×Nat=>[(7,.int .u64 g.1),(8,.int .u64 g.2)]) (fun g w'=>Ac w w'/\Nat.gcd g.1 g.2=Nat.gcd a b/\g.1<18446744073709551616/\g.2<18446744073709551616) (fun g=>g.2) (a1,b1) ⟨rfl,rfl,trivial⟩ ⟨o,l,D,E⟩ ?_;rintro⟨x,y⟩ w3 ⟨n,i,A,C⟩;dsimp only at i A C ⊢;refine A7 ?_;by_cases B:y=0
 ·subst B;refine .cf ?_;refine .s (oK CM (Ey w3 x A)) ?_;rintro r O ⟨K,J⟩;refine A7 ?_;refine uR ⟨n.trans K,?_⟩;rw[<- i,Nat.gcd_zero_right];exact J.mono n.size
 ·refine St.aD rfl (by simp;omega) ?_;refine Nv ?_;refine St.quiet Dv kr ?_;refine .run A8 99 rfl ?_;refine QL.step rfl rfl rfl (fun _=>A0.rem rfl rfl oo oo) ?_;rw[show (x:Int) % (y:Int)=((x % y:Nat):Int) from by simp];have t:=CX x (LM B);refine .run A8 99 rfl ?_;refine QL.nil fun m3=>?_;refine Nv ?_;refine Ad.again (y,x % y) ⟨rfl,rfl,trivial⟩ ⟨n.drewN m3,by simp only;rw[Zm];exact i,C,by simp only;omega⟩ t
def EW (a r:Nat):Prop:=r * r<=a/\a<(r+1) * (r+1)
theorem EW.unique {a r s:Nat}(h:EW a r) (k:EW a s):r=s:=by
 rcases LH r s with h1 | h1 | h1
 ·exfalso;have:(r+1) * (r+1)<=s * s:=Dg h1 h1;have:=h.2;have:=k.1;omega
 ·exact h1
 ·exfalso;have:(s+1) * (s+1)<=r * r:=Dg h1 h1;have:=h.1;have:=k.2;omega
theorem A4l (x z:Nat):4 * (x * z)<=(x+z) * (x+z):=by
 rcases Nat.le_total x z with h | h
 ·obtain⟨d,rfl⟩:=Nat.exists_eq_add_of_le h;have:(x+(x+d)) * (x+(x+d))=4 * (x * (x+d))+d * d:=by simp only[Dk,Bw];have:=AQ d x;omega
  omega
 ·obtain⟨d,rfl⟩:=Nat.exists_eq_add_of_le h;have:((z+d)+z) * ((z+d)+z)=4 * ((z+d) * z)+d * d:=by simp only[Dk,Bw];have:=AQ d z;omega
  omega
theorem Qs {a x:Nat}(d:0<x):a<((x+a / x) / 2+1) * ((x+a / x) / 2+1):=by
 have e:a<x * (a / x+1):=by have:=Ho a x;have:=CX a d;rw[Dk];omega
 have g:=A4l x (a / x+1);generalize a / x=q at *
 have c:x+(q+1)<=2 * ((x+q) / 2+1):=by omega
 have j:(x+(q+1)) * (x+(q+1))<=(2 * ((x+q) / 2+1)) * (2 * ((x+q) / 2+1)):=Dg c c;have k:(2 * ((x+q) / 2+1)) * (2 * ((x+q) / 2+1))=4 * (((x+q) / 2+1) * ((x+q) / 2+1)):=by rw[Nat.mul_mul_mul_comm]
 omega
theorem Sy {a x:Nat}(h:x<=(x+a / x) / 2):x * x<=a:=by
 have c:x<=a / x:=by omega
 exact Ar (Bm _ c) (TQ a x)
variable {n b k m:Nat}{w' w0 w1:World}{t e:TypeId}{E:List (Nat×Value)}{C cs:List Value}{P:Program}{o:Oper}{l:List Oper}{S:List (Nat×GN)}{ψ:GN}
def isV (P:Program) (t:TypeId):Bool:=match P.underlying t with
 | some (.struct _)=>true
 | some (.array _ _)=>true
 | _=>false
structure Rg (P:Program) (T:Nat->Prop) (w w':World):Prop where
 os:w'.os=w.os
 tape:w'.tape=w.tape
 output:w'.output=w.output
 size:w.heap.size<=w'.heap.size
 block:∀ k,k<w.heap.size->w'.heap[k]?=w.heap[k]?\/(T k/\∃ C C' e,isV P e=true/\C'.size=C.size/\w.heap[k]?=some (.cells C e (0,0))/\w'.heap[k]?=some (.cells C' e (0,0)))
section
variable {P:Program}{T:Nat->Prop}
theorem Ac.rg {w:World}(h:Ac w w'):Rg P T w w':=⟨h.os,h.tape,h.output,h.size,fun k c=>.inl (h.block k c)⟩
theorem Rg.trans {x y z:World}(h:Rg P T x y) (k:Rg P T y z):Rg P T x z:=by
 refine⟨k.os.trans h.os,k.tape.trans h.tape,k.output.trans h.output,Ar h.size k.size,fun i c=>?_⟩;rcases k.block i (CW c h.size) with e2 | ⟨t2,C,C',e,hv,hs,h1,h2⟩
 ·rcases h.block i c with e1 | ⟨t1,C,C',e,hv,hs,h1,h2⟩
  ·exact .inl (e2.trans e1)
  ·exact .inr ⟨t1,C,C',e,hv,hs,h1,e2.trans h2⟩
 ·rcases h.block i c with e1 | ⟨t1,D,D',e',hv',hs',h3,h4⟩
  ·exact .inr ⟨t2,C,C',e,hv,hs,e1.symm.trans h1,h2⟩
  ·rw[h4]at h1;simp only[AP,Obj.cells.injEq]at h1;obtain⟨rfl,rfl,_⟩:=h1;exact .inr ⟨t2,D,C',e',hv,hs.trans hs',h3,h2⟩
theorem Rg.weak {T':Nat->Prop}{w:World}(h:Rg P T w w') (d:∀ k,k<w.heap.size->T k->T' k):Rg P T' w w' :=
 ⟨h.os,h.tape,h.output,h.size,fun k c=>(h.block k c).imp id fun ⟨t,r⟩=>⟨d k c t,r⟩⟩
def Oa (P:Program) (b:Nat) (w w':World):Prop:=∃ C C' e,isV P e=true/\C'.length=C.length/\Aj e w b C/\Aj e w' b C'
theorem Rg.bW {w:World}(hu:CE b w w') (hv:Oa P b w w') (l:T b):Rg P T w w':=by
 refine⟨hu.os,hu.tape,hu.output,hu.size,fun k m=>?_⟩;by_cases e:k=b
 ·subst e;obtain⟨C,C',e,c,d,g,j⟩:=hv;exact .inr ⟨l,C.toArray,C'.toArray,e,c,by simpa using d,g,j⟩
 ·exact .inl (hu.block k m e)
theorem Rg.ext_of {w:World}(c:Ac w0 w) (h:Rg P T w w') (g:∀ k,T k->w0.heap.size<=k):Ac w0 w':=by
 refine⟨h.os.trans c.os,h.tape.trans c.tape,h.output.trans c.output,Ar c.size h.size,fun k d=>?_⟩;rcases h.block k (CW d c.size) with e | ⟨t,_⟩
 ·exact e.trans (c.block k d)
 ·have:=g k t;omega
def Tg (w:World) (L:List Nat) (k:Nat):Prop:=w.heap.size<=k\/k ∈ L
theorem Rg.cC {w:World}{L:List Nat}(d:Ac w0 w) (h:Rg P (Tg w L) w w') (e:∀ k ∈ L,w0.heap.size<=k):Ac w0 w':=by
 refine h.ext_of d ?_;rintro k (c | c)
 ·exact Ar d.size c
 ·exact e k c
theorem Rg.aq {w:World}(h:Rg P (Tg w []) w w'):Ac w w':=h.cC (Ac.refl _) sm
theorem Rg.blk {w:World}{L:List Nat}(h:Rg P (Tg w L) w w') (c:Aj e w b C) (d:b ∉ L):Aj e w' b C:=by
 have g:=c.lt;rcases h.block b g with e1 | ⟨h1 | h1,_⟩
 ·exact e1.trans c
 ·omega
 ·exact absurd h1 d
theorem Rg.dz {w:World}(h:Rg P T w w') (c:Aj e w b C):∃ C',Aj e w' b C'/\C'.length=C.length:=by
 rcases h.block b c.lt with e1 | ⟨_,D,D',e',_,hs,h1,h2⟩
 ·exact⟨C,e1.trans c,rfl⟩
 ·unfold Aj at c;rw[c]at h1;simp only[AP,Obj.cells.injEq]at h1;obtain⟨rfl,rfl,_⟩:=h1;exact⟨D'.toList,by unfold Aj;simpa using h2,by simpa using hs⟩
theorem Rg.own {w:World}{v:Value}(h:Rg P T w w') (hv:isV P e=false) (c:Gh base e w v cs):Gh base e w' v cs:=by
 refine⟨c.1,?_⟩;rcases c.2 with h0 | ⟨g,cap,cur,hv',hb,hg,r⟩
 ·exact .inl h0
 ·refine .inr ⟨g,cap,cur,hv',hb,?_,r⟩;rcases h.block g (Gt.1 hg).1 with e1 | ⟨_,C,C',e',hv2,_,h1,_⟩
  ·exact e1.trans hg
  ·rw[hg]at h1;simp only[AP,Obj.cells.injEq]at h1;obtain⟨_,rfl,_⟩:=h1;rw[hv]at hv2;cases hv2
end
def Am (P:Program) (ψ:GN):Prop:=∀ v w w',Rg P (fun _=>True) w w'->ψ v w->ψ v w'
def UQ (P:Program) (χ:GN):Prop :=
 (∀ v w w',Ac w w'->χ v w->χ v w')/\∀ v w w' b,CE b w w'->Oa P b w w'->v≠.pointer (some ⟨b,0,none⟩)->χ v w->χ v w'
theorem Am.is (P:Program) (c:Value):Am P (Is c):=fun _ _ _ _ h=>h
def A4m (t:TypeId) (ψ:GN):GN:=fun v w=>∃ b u,v=.pointer (some ⟨b,0,none⟩)/\Aj t w b u.cells.toList/\ψ u w
theorem UQ.holds (h:Am P ψ):UQ P (A4m t ψ):=by
 refine⟨?_,?_⟩
 ·rintro v w w' j ⟨b,u,rfl,d,hu⟩;exact⟨b,u,rfl,d.ext j,h u w w' j.rg hu⟩
 ·rintro v w w' b g k l ⟨c,u,rfl,d,hu⟩;exact⟨c,u,rfl,d.upd g (fun e=>l (by rw[e])),h u w w' (Rg.bW g k trivial) hu⟩
def CS (o:Oper):Option Nat:=match o.dst,o.op with
 | none,.store _ (.tmp p) _=>some p
 | _,_=>none
def Cb:List Oper->List Nat
 | []=>[]
 | o::r=>match CS o with
  | some p=>p::Cb r
  | none=>Cb r
def I8 (ms:List Nat) (i:Nat):Nat->List Oper->List Nat
 | _,[]=>[]
 | j,o::r=>match CS o with
  | some p=>bif (ms.getD j 0).testBit i then I8 ms i (j+1) r else p::I8 ms i (j+1) r
  | none=>I8 ms i (j+1) r
def HN (l:List Oper) (m i:Nat):List Nat:=I8 (MZ [] l) i 0 (l.take m)
def M5 (E:List (Nat×Value)) (p:Nat):Option Nat:=match AR E p with
 | some (.pointer (some ⟨b,0,none⟩))=>some b
 | _=>none
def Bl (E:List (Nat×Value)):List Nat->List Nat
 | []=>[]
 | p::r=>match M5 E p with
  | some b=>b::Bl E r
  | none=>Bl E r
def Fz (X:List (Nat×Value)) (E:List (Nat×Value)):List Nat->List (Nat×Value)
 | []=>E
 | t::r=>match AR X t with
  | some v=>(t,v)::Fz X E r
  | none=>Fz X E r
def Obl (P:Program) (n:Nat) (l:List Oper) (m:Nat) (E:List (Nat×Value)) (w:World) (i:Nat) (X:List (Nat×Value)) (S:List (Nat×GN)) (o:Oper) (Φ:List (Nat×Value)->World->Value->World->Prop):Prop :=
 ∀ w1,Rg P (Tg w (Bl E (HN l m i))) w w1->Rh S (BA l o) (Fz X E (BA l o)) w1 (fun E2=>CD P n l.toArray o E2 w1 (Φ E2 w1))
def A0S (o:Oper) (w1:World) (v:Value) (w2:World):Prop:=Cg o.op=true->∃ b,v=.pointer (some ⟨b,0,none⟩)/\w1.heap.size<=b/\b<w2.heap.size
def FL (P:Program) (n:Nat) (l:List Oper) (m:Nat) (E:List (Nat×Value)) (w:World) (fin:List (Nat×Value)->List (Nat×GN)->List (Nat×GN)->Prop):Nat->List (Nat×Value)->List (Nat×GN)->List (Nat×GN)->List Oper->Prop
 | _,X,S,H,[]=>fin X S H
 | i,X,S,H,o::r =>
  (∃ d v,o.dst=some d/\Cg o.op=false/\Obl P n l m E w i X S o (fun _ w1 v' w2=>Ac w1 w2/\v'=v)/\FL P n l m E w fin (i+1) ((d,v)::X) S H r) \/
  (∃ d ψ,o.dst=some d/\Am P ψ/\Obl P n l m E w i X S o (fun _ w1 v' w2=>Ac w1 w2/\ψ v' w2/\A0S o w1 v' w2)/\FL P n l m E w fin (i+1) X ((d,ψ)::S) H r) \/
  (∃ p χ,CS o=some p/\UQ P χ/\Obl P n l m E w i X S o (fun E2 w1 _ w2=>∃ b,AR E2 p=some (.pointer (some ⟨b,0,none⟩))/\CE b w1 w2/\Oa P b w1 w2/\χ (.pointer (some ⟨b,0,none⟩)) w2)/\FL P n l m E w fin (i+1) X S ((p,χ)::H) r)
def A4n (P:Program) (n:Nat) (l:List Oper) (m:Nat) (E:List (Nat×Value)) (w:World) (Sf Hf:List (Nat×GN)) (i:Nat) (o:Oper):Prop :=
 ∀ w1 a,Rg P (Tg w (Bl E (HN l m i))) w w1->a.tmps.size=n->a.defers=[]->(∀ k v,AR E k=some v->a.tmps[k]?=some v) ->
  (∀ t ∈ BA l o,∀ φ,BL Sf t=some φ->∃ v,a.tmps[t]?=some v/\φ v w1) ->
  ∃ E2,DM n E2 a/\(
   (∃ d ψ,o.dst=some d/\BL Sf d=some ψ/\CD P n l.toArray o E2 w1 (fun v' w2=>Ac w1 w2/\ψ v' w2/\A0S o w1 v' w2)) \/
   (∃ p χ,CS o=some p/\BL Hf p=some χ/\CD P n l.toArray o E2 w1 (fun _ w2=>∃ b,AR E2 p=some (.pointer (some ⟨b,0,none⟩))/\CE b w1 w2/\Oa P b w1 w2/\χ (.pointer (some ⟨b,0,none⟩)) w2)))
theorem A36 {X:List (Nat×Value)}{v:Value}:∀ {ts:List Nat},AR (Fz X E ts) k=some v->(k ∈ ts/\AR X k=some v)\/AR E k=some v:=by
 intro ts;induction ts with
 | nil=>intro h;exact .inr h
 | cons t r ih =>
  intro h;unfold Fz at h;split at h
  ·rename_i u hu;by_cases e:t=k
   ·subst e;rw[AF]at h;cases h;exact .inl ⟨by simp,hu⟩
   ·rw[Bc _ _ e]at h;rcases ih h with ⟨h1,h2⟩ | h1
    ·exact .inl ⟨by simp[h1],h2⟩
    ·exact .inr h1
  ·rcases ih h with ⟨h1,h2⟩ | h1
   ·exact .inl ⟨by simp[h1],h2⟩
   ·exact .inr h1
theorem BF {R:List (Nat×GN)}{t:Nat}{φ:GN}(h:BL S t=some φ):BL (S++R) t=some φ:=by
 induction S with
 | nil=>simp[BL]at h
 | cons q r ih =>
  obtain⟨k,ψ⟩:=q;simp only[Hh,BL]at h ⊢;cases hb:Nat.beq k t with
  | true=>rw[hb]at h;exact h
  | false=>rw[hb]at h;exact ih h
theorem DQ {R:List (Nat×GN)}{t:Nat}{φ:GN}(h:t ∉ S.map (·.1)):BL (S++(t,φ)::R) t=some φ:=by
 induction S with
 | nil=>simp[BL]
 | cons q r ih =>
  obtain⟨k,ψ⟩:=q;simp only[Er,Cw,not_or]at h;simp only[Hh,BL];have:Nat.beq k t=false:=by
   cases hb:Nat.beq k t
   ·rfl
   ·exact absurd (J3 hb).symm h.1
  rw[this];exact ih h.2
theorem IX (a b:List Oper):Ec (a++b)=Ec a++Ec b:=by
 induction a with
 | nil=>rfl
 | cons o r ih =>
  simp only[Hh,Ec];split <;> simp[ih]
theorem HA (a b:List Oper):Cb (a++b)=Cb a++Cb b:=by
 induction a with
 | nil=>rfl
 | cons o r ih =>
  simp only[Hh,Cb];split <;> simp[ih]
theorem N9:∀ {l:List Nat},Ff l=true->l.Nodup:=by
 intro l;induction l with
 | nil=>intro _;exact List.nodup_nil
 | cons x r ih =>
  intro h;simp only[Ff,Et,Bool.not_eq_true',List.contains_eq_mem,decide_eq_false_iff_not]at h;exact NV.2 ⟨h.1,ih h.2⟩
theorem UR {w:World}{X:List (Nat×Value)}{Sf:List (Nat×GN)}{Φ:List (Nat×Value)->World->Value->World->Prop}
  (g:∀ t v,AR X t=some v->BL Sf t=some (Is v)) (e:∀ q ∈ S,BL Sf q.1=some q.2) (h:Obl P n l m E w i X S o Φ) {a:Act} (d:Rg P (Tg w (Bl E (HN l m i))) w w1) (b:a.tmps.size=n) (r:a.defers=[])
  (j:∀ k v,AR E k=some v->a.tmps[k]?=some v) (c:∀ t ∈ BA l o,∀ φ,BL Sf t=some φ->∃ v,a.tmps[t]?=some v/\φ v w1):∃ E2,DM n E2 a/\CD P n l.toArray o E2 w1 (Φ E2 w1):=by
 refine Ze b r (BA l o) _ ?_ ?_ (h w1 d)
 ·intro k v z;rcases A36 z with ⟨h1,h2⟩ | h1
  ·obtain⟨u,hu,y⟩:=c k h1 _ (g k v h2);rw[hu];exact congrArg some y
  ·exact j k v h1
 ·intro t f φ p;exact c t f φ (e _ (JY p))
theorem A6u {w:World}{fin:List (Nat×Value)->List (Nat×GN)->List (Nat×GN)->Prop}(hm:m<=l.length) (Z:(Ec (l.take m)).Nodup) (hh:(Cb (l.take m)).Nodup) :
  ∀ (r pre:List Oper) (X:List (Nat×Value)) (S H Sp y:List (Nat×GN)),l.take m=pre++r->Sp.map (·.1)=Ec pre->y.map (·.1)=Cb pre ->
   (∀ t v,AR X t=some v->BL Sp t=some (Is v))->(∀ q ∈ S,BL Sp q.1=some q.2)->(∀ q ∈ H,BL y q.1=some q.2)->FL P n l m E w fin pre.length X S H r ->
   ∃ g f,(Sp++g).map (·.1)=Ec (l.take m)/\(y++f).map (·.1)=Cb (l.take m)/\(∀ q ∈ g,Am P q.2)/\(∀ q ∈ f,UQ P q.2) /\
    (∃ X' S' H',fin X' S' H'/\(∀ t v,AR X' t=some v->BL (Sp++g) t=some (Is v))/\(∀ q ∈ S',BL (Sp++g) q.1=some q.2)/\(∀ q ∈ H',BL (y++f) q.1=some q.2)) /\
    ∀ j o,pre.length<=j->j<m->l[j]?=some o->A4n P n l m E w (Sp++g) (y++f) j o:=by
 intro r;induction r with
 | nil =>
  intro pre X S H Sp y i A D x s L h;refine⟨[],[],by simp[i,A],by simp[i,D],by simp,by simp,⟨X,S,H,h,by simpa using x,by simpa using s,by simpa using L⟩,?_⟩;intro j o B C;have:(l.take m).length=pre.length:=by rw[i];simp
  simp at this;omega
 | cons o r ih =>
  intro pre X S H Sp y i A D x s L h;have ha:l.take m=(pre++[o])++r:=by rw[i];simp
  have F:(pre++[o]).length=pre.length+1:=by simp
  have hj:(l.take m).length=pre.length+(r.length+1):=by rw[i];simp
  have hc:l[pre.length]?=some o:=by
   have:(l.take m)[pre.length]?=some o:=by rw[i];simp
   rwa [Dz (by simp at hj;omega)]at this
  rcases h with ⟨d,v,z,hal,hob,hr⟩ | ⟨d,ψ,z,hmo,hob,hr⟩ | ⟨p,χ,hp,hmo,hob,hr⟩
  ·have Q:d ∉ Sp.map (·.1):=by rw[A];rw[i,IX]at Z;intro U;exact (TT.1 Z).2.2 d U d (by simp[Ec,z]) rfl
   have he:CS o=none:=by simp[CS,z]
   obtain⟨g,f,B,C,G,I,J,K⟩:=ih (pre++[o]) ((d,v)::X) S H (Sp++[(d,Is v)]) y ha (by simp[IX,A,Ec,z]) (by simp[HA,D,Cb,he])
    (by
     intro t u k;by_cases e:d=t
     ·subst e;rw[AF]at k;cases k;exact DQ Q
     ·rw[Bc _ _ e]at k;exact BF (x t u k)) (fun q c=>BF (s q c)) L (by rw[F];exact hr)
   refine⟨(d,Is v)::g,f,by simpa using B,C,?_,I,by simpa using J,?_⟩
   ·intro q c;rcases Cw.1 c with rfl | c
    ·exact Am.is P v
    ·exact G q c
   ·intro j oj hg V b;by_cases e:j=pre.length
    ·subst e;rw[hc]at b;cases b;intro w1 a M Y O N R;obtain⟨E2,T,W⟩:=UR (Sf:=Sp++(d,Is v)::g) (fun t u k=>BF (x t u k)) (fun q c=>BF (s q c)) hob M Y O N R;refine⟨E2,T,.inl ⟨d,Is v,z,DQ Q,?_⟩⟩;rcases W with ⟨hw,ho⟩ | ⟨hw,ho⟩
     ·exact .inl ⟨hw,ho.mono fun v' w2 hv=>⟨hv.1,hv.2,fun e=>by rw[hal]at e;cases e⟩⟩
     ·exact .inr ⟨hw,ho.1,ho.2,fun e=>by rw[hal]at e;cases e⟩
    ·have:=K j oj (by rw[F];omega) V b;simpa using this
  ·have Q:d ∉ Sp.map (·.1):=by rw[A];rw[i,IX]at Z;intro U;exact (TT.1 Z).2.2 d U d (by simp[Ec,z]) rfl
   have he:CS o=none:=by simp[CS,z]
   obtain⟨g,f,B,C,G,I,J,K⟩:=ih (pre++[o]) X ((d,ψ)::S) H (Sp++[(d,ψ)]) y ha (by simp[IX,A,Ec,z]) (by simp[HA,D,Cb,he])
    (fun t u k=>BF (x t u k))
    (by
     intro q c;rcases Cw.1 c with rfl | c
     ·exact DQ Q
     ·exact BF (s q c)) L (by rw[F];exact hr)
   refine⟨(d,ψ)::g,f,by simpa using B,C,?_,I,by simpa using J,?_⟩
   ·intro q c;rcases Cw.1 c with rfl | c
    ·exact hmo
    ·exact G q c
   ·intro j oj hg V b;by_cases e:j=pre.length
    ·subst e;rw[hc]at b;cases b;intro w1 a M Y O N R;obtain⟨E2,T,W⟩:=UR (Sf:=Sp++(d,ψ)::g) (fun t u k=>BF (x t u k)) (fun q c=>BF (s q c)) hob M Y O N R;exact⟨E2,T,.inl ⟨d,ψ,z,DQ Q,W⟩⟩
    ·have:=K j oj (by rw[F];omega) V b;simpa using this
  ·have hi:p ∉ y.map (·.1):=by rw[D];rw[i,HA]at hh;intro U;exact (TT.1 hh).2.2 p U p (by simp[Cb,hp]) rfl
   have z:o.dst=none:=by
    unfold CS at hp;split at hp
    ·assumption
    ·cases hp
   obtain⟨g,f,B,C,G,I,J,K⟩:=ih (pre++[o]) X S ((p,χ)::H) Sp (y++[(p,χ)]) ha (by simp[IX,A,Ec,z]) (by simp[HA,D,Cb,hp])
    x s
    (by
     intro q c;rcases Cw.1 c with rfl | c
     ·exact DQ hi
     ·exact BF (L q c)) (by rw[F];exact hr)
   refine⟨g,(p,χ)::f,B,by simpa using C,G,?_,by simpa using J,?_⟩
   ·intro q c;rcases Cw.1 c with rfl | c
    ·exact hmo
    ·exact I q c
   ·intro j oj hg V b;by_cases e:j=pre.length
    ·subst e;rw[hc]at b;cases b;intro w1 a M Y O N R;obtain⟨E2,T,W⟩:=UR (Sf:=Sp++g) (fun t u k=>BF (x t u k)) (fun q c=>BF (s q c)) hob M Y O N R;exact⟨E2,T,.inr ⟨p,χ,hp,DQ hi,W⟩⟩
    ·have:=K j oj (by rw[F];omega) V b;simpa using this
variable {j:Nat}
def US (l:List Oper) (m:Nat):Bool :=
 Nat.ble m l.length &&
 (List.range l.length).all (fun i=>match l[i]? with | some o=>(Cr o).all (fun e=>Nat.blt e i) | none=>false) &&
 (List.range m).all (fun i=>match l[i]? with
  | some o=>(match o.dst with | some _=>true | none=>(match CS o with | some _=>true | none=>false)) && (BA l o).all (fun t=>!((Ec (l.take m)).contains t) || (List.range m).any (fun j=>match l[j]? with | some oj=>oj.dst == some t && (Cr o).contains j | none=>false))
  | none=>false) &&
 Ff (Ec (l.take m)) && Ff (Cb (l.take m)) &&
 (List.range m).all (fun i=>match l[i]? with
  | some o=>(match CS o with | some p=>!((Ec (l.take m)).contains p) || (List.range m).any (fun j=>match l[j]? with | some oj=>oj.dst == some p && Cg oj.op && (Cr o).contains j | none=>false) | none=>true)
  | none=>false) &&
 (List.range l.length).all (fun k=>Nat.blt k m || (List.range k).all (fun j=>((MZ [] l).getD k 0).testBit j))
structure XO (l:List Oper) (m:Nat):Prop where
 le:m<=l.length
 back:∀ i o,l[i]?=some o->∀ e ∈ Cr o,e<i
 kind:∀ i o,i<m->l[i]?=some o->(∃ d,o.dst=some d)\/∃ p,CS o=some p
 pred:∀ i o,i<m->l[i]?=some o->∀ t ∈ BA l o,t ∈ Ec (l.take m)->∃ j oj,j<m/\l[j]?=some oj/\oj.dst=some t/\j ∈ Cr o
 ndd:(Ec (l.take m)).Nodup
 nds:(Cb (l.take m)).Nodup
 slot:∀ i o p,i<m->l[i]?=some o->CS o=some p->p ∈ Ec (l.take m)->∃ j oj,j<m/\l[j]?=some oj/\oj.dst=some p/\Cg oj.op=true/\j ∈ Cr o
 last:∀ k,m<=k->k<l.length->∀ j,j<k->((MZ [] l).getD k 0).testBit j=true
theorem Zo (h:US l m=true):XO l m:=by
 simp only[US,Et]at h;obtain⟨⟨⟨⟨⟨⟨z,a⟩,y⟩,b⟩,f⟩,n⟩,s⟩:=h;have A:=Jr z;refine⟨A,?_,?_,?_,N9 b,N9 f,?_,?_⟩
 ·intro i o q e w;have r:=(Au.1 q).1;have:=Eu.1 a i (CZ.2 r);rw[q]at this;simpa[Kg] using Eu.1 this e w
 ·intro i o r q;have:=Eu.1 y i (CZ.2 r);rw[q]at this;simp only[Et]at this;have:=this.1;cases hd:o.dst with
  | some d=>exact .inl ⟨d,rfl⟩
  | none =>
   rw[hd]at this;cases hs:CS o with
   | some p=>exact .inr ⟨p,rfl⟩
   | none=>rw[hs]at this;cases this
 ·intro i o r q t C v;have:=Eu.1 y i (CZ.2 r);rw[q]at this;simp only[Et]at this;have c:=Eu.1 this.2 t C;simp only[H9]at c;rcases c with c | c
  ·simp[v]at c
  ·obtain⟨j,u,g⟩:=TH.1 c;cases hoj:l[j]? with
   | none=>rw[hoj]at g;simp at g
   | some oj =>
    rw[hoj]at g;simp only[Et,beq_iff_eq,List.contains_iff_mem]at g;exact⟨j,oj,CZ.1 u,hoj,g.1,g.2⟩
 ·intro i o p r q B v;have:=Eu.1 n i (CZ.2 r);rw[q]at this;simp only[B,H9]at this;rcases this with c | c
  ·simp[v]at c
  ·obtain⟨j,u,g⟩:=TH.1 c;cases hoj:l[j]? with
   | none=>rw[hoj]at g;simp at g
   | some oj =>
    rw[hoj]at g;simp only[Et,beq_iff_eq,List.contains_iff_mem]at g;exact⟨j,oj,CZ.1 u,hoj,g.1.1,g.1.2,g.2⟩
 ·intro k D x j u;have:=Eu.1 s k (CZ.2 x);simp only[H9]at this;rcases this with c | c
  ·simp[Kg]at c;omega
  ·exact Eu.1 c j (CZ.2 u)
theorem UT {t:Nat}:∀ {l:List Oper},(∃ (i:Nat) (o:Oper),l[i]?=some o/\o.dst=some t)↔t ∈ Ec l:=by
 intro l;induction l with
 | nil=>simp[Ec]
 | cons o r ih =>
  constructor
  ·rintro⟨i,o',c,e⟩;cases i with
   | zero =>
    simp only[Hq,AP]at c;subst c;simp[Ec,e]
   | succ i =>
    simp only[HY]at c;have:=ih.1 ⟨i,o',c,e⟩;unfold Ec;split <;> simp[this]
  ·intro h;unfold Ec at h;split at h
   ·rename_i d g;rcases Cw.1 h with rfl | h
    ·exact⟨0,o,rfl,g⟩
    ·obtain⟨i,o',c,e⟩:=ih.2 h;exact⟨i+1,o',c,e⟩
   ·obtain⟨i,o',c,e⟩:=ih.2 h;exact⟨i+1,o',c,e⟩
theorem Na {p:Nat}:∀ {l:List Oper},(∃ (i:Nat) (o:Oper),l[i]?=some o/\CS o=some p)->p ∈ Cb l:=by
 intro l;induction l with
 | nil=>simp
 | cons o r ih =>
  rintro⟨i,o',c,d⟩;cases i with
  | zero =>
   simp only[Hq,AP]at c;subst c;simp[Cb,d]
  | succ i =>
   simp only[HY]at c;have:=ih ⟨i,o',c,d⟩;unfold Cb;split <;> simp[this]
theorem Qt:∀ {l:List Oper},(Ec l).Nodup->∀ {i j:Nat}{a b:Oper}{d:Nat},l[i]?=some a->l[j]?=some b->a.dst=some d->b.dst=some d->i=j:=by
 intro l;induction l with
 | nil=>intro _ i j a b d h;simp at h
 | cons o r ih =>
  intro g i j a b d m e q u;have t:(Ec r).Nodup:=by
   unfold Ec at g;split at g
   ·exact (NV.1 g).2
   ·exact g
  have key:∀ {k:Nat} {c:Oper},r[k]?=some c->c.dst=some d->o.dst=some d->False:=by intro k c v y z;simp only[Ec,z]at g;exact (NV.1 g).1 (UT.1 ⟨k,c,v,y⟩)
  cases i with
  | zero =>
   cases j with
   | zero=>rfl
   | succ j =>
    simp only[Hq,AP]at m;simp only[HY]at e;subst m;exact (key e u q).elim
  | succ i =>
   simp only[HY]at m;cases j with
   | zero =>
    simp only[Hq,AP]at e;subst e;exact (key m q u).elim
   | succ j =>
    simp only[HY]at e;rw[ih t m e q u]
theorem A37:∀ {l:List Oper},(Cb l).Nodup->∀ {i j:Nat}{a b:Oper}{p:Nat},l[i]?=some a->l[j]?=some b->CS a=some p->CS b=some p->i=j:=by
 intro l;induction l with
 | nil=>intro _ i j a b d h;simp at h
 | cons o r ih =>
  intro g i j a b d m e q u;have t:(Cb r).Nodup:=by
   unfold Cb at g;split at g
   ·exact (NV.1 g).2
   ·exact g
  have key:∀ {k:Nat} {c:Oper},r[k]?=some c->CS c=some d->CS o=some d->False:=by intro k c v y z;simp only[Cb,z]at g;exact (NV.1 g).1 (Na ⟨k,c,v,y⟩)
  cases i with
  | zero =>
   cases j with
   | zero=>rfl
   | succ j =>
    simp only[Hq,AP]at m;simp only[HY]at e;subst m;exact (key e u q).elim
  | succ i =>
   simp only[HY]at m;cases j with
   | zero =>
    simp only[Hq,AP]at e;subst e;exact (key m q u).elim
   | succ j =>
    simp only[HY]at e;rw[ih t m e q u]
theorem Wp {ms:List Nat}{p:Nat}:∀ (r:List Oper) (s j:Nat) (o:Oper),r[j]?=some o->CS o=some p->(ms.getD (s+j) 0).testBit i=false->p ∈ I8 ms i s r:=by
 intro r;induction r with
 | nil=>intro s j o h;simp at h
 | cons x r ih =>
  intro s j o h d c;cases j with
  | zero =>
   simp only[Hq,AP]at h;subst h;simp only[Ep]at c;simp only[I8,d,c,cond_false,Cw,true_or]
  | succ j =>
   simp only[HY]at h;have:=ih (s+1) j o h d (by rw[show s+1+j=s+(j+1) from by omega];exact c);unfold I8;split
   ·rename_i q e;cases (ms.getD s 0).testBit i <;> simp[this]
   ·exact this
theorem JD {p:Nat}(h:AR E p=some (.pointer (some ⟨k,0,none⟩))):∀ {ps:List Nat},p ∈ ps->k ∈ Bl E ps:=by
 have d:M5 E p=some k:=by simp[M5,h]
 intro ps;induction ps with
 | nil=>intro h;cases h
 | cons q r ih =>
  intro c;unfold Bl;rcases Cw.1 c with rfl | c
  ·rw[d];simp
  ·split <;> simp[ih c]
def Wq (w:World):List Nat->Prop
 | []=>True
 | b::r=>b<w.heap.size/\(∀ c ∈ r,b≠c)/\Wq w r
def DX (l:List Oper) (m:Nat):List Nat:=(Cb (l.take m)).filter (fun p=>!((Ec (l.take m)).contains p))
def M6 (E:List (Nat×Value)):List Nat->Bool
 | []=>true
 | p::r=>(match M5 E p with | some _=>true | none=>false) && M6 E r
theorem WO {w:World}:∀ {ps:List Nat},ps.Nodup->M6 E ps=true->Wq w (Bl E ps) ->
  (∀ p ∈ ps,∃ b,AR E p=some (.pointer (some ⟨b,0,none⟩))/\b<w.heap.size)/\∀ p ∈ ps,∀ q ∈ ps,p≠q->∀ b c,AR E p=some (.pointer (some ⟨b,0,none⟩))->AR E q=some (.pointer (some ⟨c,0,none⟩))->b≠c:=by
 intro ps;induction ps with
 | nil=>intro _ _ _;exact⟨by simp,by simp⟩
 | cons x r ih =>
  intro s o y;simp only[M6,Et]at o;obtain⟨u,f⟩:=o;have n:∃ b,M5 E x=some b:=by
   cases d:M5 E x with
   | none=>rw[d]at u;cases u
   | some b=>exact⟨b,rfl⟩
  obtain⟨b,d⟩:=n;have l:AR E x=some (.pointer (some ⟨b,0,none⟩)):=by
   unfold M5 at d;split at d
   ·rename_i h;simp only[AP]at d;subst d;exact h
   ·cases d
  simp only[Bl,d,Wq]at y;obtain⟨t,m,a⟩:=y;obtain⟨i1,i2⟩:=ih (NV.1 s).2 f a;refine⟨?_,?_⟩
  ·intro p g;rcases Cw.1 g with rfl | g
   ·exact⟨b,l,t⟩
   ·exact i1 p g
  ·intro p g q z v c e j k;rcases Cw.1 g with hp1 | hp1
   ·rcases Cw.1 z with hq1 | hq1
    ·exact absurd (hp1.trans hq1.symm) v
    ·rw[hp1,l]at j;cases j;exact m e (JD k hq1)
   ·rcases Cw.1 z with hq1 | hq1
    ·rw[hq1,l]at k;cases k;exact fun i=>m c (JD j hp1) i.symm
    ·exact i2 p hp1 q hq1 v c e j k
structure A38 (P:Program) (n:Nat) (l:List Oper) (m:Nat) (Sf Hf:List (Nat×GN)) (E:List (Nat×Value)) (w0:World) (listed:Array Bool) (a:Act) (w:World):Prop where
 size:listed.size=l.length
 closed:∀ i o,l[i]?=some o->listed.getD i false=true->∀ e ∈ Cr o,listed.getD e false=true
 tmps:a.tmps.size=n
 defers:a.defers=[]
 base:∀ k v,AR E k=some v->a.tmps[k]?=some v
 facts:∀ i o d ψ,i<m->l[i]?=some o->listed.getD i false=true->o.dst=some d->BL Sf d=some ψ->∃ v,a.tmps[d]?=some v/\ψ v w
 held:∀ i o p χ,i<m->l[i]?=some o->listed.getD i false=true->CS o=some p->BL Hf p=some χ->∃ v,a.tmps[p]?=some v/\χ v w
 rel:Rg P (fun k=>w0.heap.size<=k\/∃ j o p,j<m/\l[j]?=some o/\listed.getD j false=true/\CS o=some p/\AR E p=some (.pointer (some ⟨k,0,none⟩))) w0 w
 noB:∀ i,m<=i->listed.getD i false=false
 made:∀ i o d,i<m->l[i]?=some o->listed.getD i false=true->Cg o.op=true->o.dst=some d->∃ b,a.tmps[d]?=some (.pointer (some ⟨b,0,none⟩))/\w0.heap.size<=b/\b<w.heap.size
 apart:∀ i j oi oj di dj v,i<m->j<m->i≠j->l[i]?=some oi->l[j]?=some oj->listed.getD i false=true->listed.getD j false=true->Cg oi.op=true->Cg oj.op=true->oi.dst=some di->oj.dst=some dj->a.tmps[di]?=some v->a.tmps[dj]?=some v->False
section
variable {P:Program}{n:Nat}{l:List Oper}{m:Nat}{Sf Hf:List (Nat×GN)}{E:List (Nat×Value)}{w0:World}{listed:Array Bool}{a:Act}{w:World}
theorem A38.ptr (k:A38 P n l m Sf Hf E w0 listed a w) (g:XO l m) (t:M6 E (DX l m)=true) (C:Wq w0 (Bl E (DX l m))) {p:Nat}(q:i<m) (r:l[i]?=some o) (u:CS o=some p) (h:∀ e ∈ Cr o,listed.getD e false=true) :
  ∃ b,a.tmps[p]?=some (.pointer (some ⟨b,0,none⟩))/\((p ∈ Ec (l.take m)/\w0.heap.size<=b)\/(p ∉ Ec (l.take m)/\p ∈ DX l m/\AR E p=some (.pointer (some ⟨b,0,none⟩))/\b<w0.heap.size)):=by
 by_cases d:p ∈ Ec (l.take m)
 ·obtain⟨j,oj,s,B,f,z,x⟩:=g.slot i o p q r u d;obtain⟨b,c,y,_⟩:=k.made j oj p s B (h j x) z f;exact⟨b,c,.inl ⟨d,y⟩⟩
 ·have v:p ∈ DX l m:=by unfold DX;refine TU.2 ⟨Na ⟨i,o,by rw[Dz q];exact r,u⟩,by simpa using d⟩
  obtain⟨b,c,A⟩:=(WO (g.nds.sublist List.filter_sublist) t C).1 p v;exact⟨b,k.base p _ c,.inr ⟨d,v,c,A⟩⟩
theorem A38.ptr_ne (g:A38 P n l m Sf Hf E w0 listed a w) (c:XO l m) (k:M6 E (DX l m)=true) (A:Wq w0 (Bl E (DX l m))) {oj:Oper}{p q:Nat}(u:i<m) (z:j<m) (O:i≠j) (t:l[i]?=some o) (f:l[j]?=some oj) (s:CS o=some p) (B:CS oj=some q)
  (H:∀ e ∈ Cr o,listed.getD e false=true) (I:∀ e ∈ Cr oj,listed.getD e false=true) {v:Value} (hv:a.tmps[p]?=some v) (d:a.tmps[q]?=some v):False:=by
 have K:p≠q:=by intro e;subst e;exact O (A37 c.nds (i:=i) (j:=j) (by rw[Dz u];exact t) (by rw[Dz z];exact f) s B)
 obtain⟨b,C,N⟩:=g.ptr c k A u t s H;obtain⟨b',D,F⟩:=g.ptr c k A z f B I;rw[C]at hv;rw[D]at d;rw[<- hv]at d;simp only[AP,Value.pointer.injEq,FF,and_true]at d;subst d;rcases N with ⟨h1,h2⟩ | ⟨h1,h2,h3,h4⟩
 ·rcases F with ⟨k1,k2⟩ | ⟨k1,k2,k3,k4⟩
  ·obtain⟨x,ox,Q,J,G,L,R⟩:=c.slot i o p u t s h1;obtain⟨y,oy,S,h,r,M,T⟩:=c.slot j oj q z f B k1;refine g.apart x y ox oy p q _ Q S ?_ J h (H x R) (I y T) L M G r C D;intro e;subst e;rw[J]at h;cases h;rw[G]at r;cases r;exact K rfl
  ·omega
 ·rcases F with ⟨k1,k2⟩ | ⟨k1,k2,k3,k4⟩
  ·omega
  ·exact (WO (c.nds.sublist List.filter_sublist) k A).2 p h2 q k2 K _ _ h3 k3 rfl
end
variable {id:Nat}{Q:Exit->Act->World->Prop}
def Zp (E:List (Nat×Value)) (w:World):List (Nat×GN)->Prop
 | []=>True
 | (p,χ)::r=>(match AR E p with | some v=>χ v w | none=>True)/\Zp E w r
theorem A0T {w:World}:∀ {H:List (Nat×GN)},(∀ q ∈ H,∀ v,AR E q.1=some v->q.2 v w)->Zp E w H:=by
 intro H;induction H with
 | nil=>intro _;trivial
 | cons q r ih =>
  intro h;obtain⟨p,χ⟩:=q;refine⟨?_,ih fun q c=>h q (HW _ c)⟩;cases hl:AR E p with
  | none=>trivial
  | some v=>exact h (p,χ) sm v hl
theorem Zq {X:List (Nat×Value)}{v:Value}:AR (X++E) k=some v->AR X k=some v\/AR E k=some v:=by
 induction X with
 | nil=>intro h;exact .inr h
 | cons q r ih =>
  obtain⟨t,u⟩:=q;intro h;by_cases e:t=k
  ·subst e;rw[Hh,AF]at h;exact .inl (by rw[AF];exact h)
  ·rw[Hh,Bc _ _ e]at h;rw[Bc _ _ e];exact ih h
def Ob (P:Program) (n:Nat) (l:List Oper) (m:Nat) (E:List (Nat×Value)) (w:World) (Q:Exit->Act->World->Prop) (X:List (Nat×Value)) (S H:List (Nat×GN)):Prop :=
 ∀ w1,Rg P (Tg w (Bl E (Cb (l.take m)))) w w1->Za S (X++E) w1 (fun E2=>Zp E2 w1 H->A0K (Jc (l.take m)) E2->Af P n E2 w1 l.toArray (l.drop m) Q)
theorem Rz {t:Nat}(h:BL S t=some ψ):t ∈ S.map (·.1):=CG.2 ⟨_,JY h,rfl⟩
theorem A7T {Sf Hf:List (Nat×GN)}(K:XO l m) (kt:Sf.map (·.1)=Ec (l.take m)) (ub:Hf.map (·.1)=Cb (l.take m))
  (k4:∀ q ∈ Sf,Am P q.2) (k5:∀ q ∈ Hf,UQ P q.2) (uo:∀ d ∈ Ec (l.take m),AR E d=none) (ut:∀ d ∈ Ec (l.take m),d<n) (h8:M6 E (DX l m)=true) (k9:Wq w0 (Bl E (DX l m)))
  (uy:∀ j o,j<m->l[j]?=some o->A4n P n l m E w0 Sf Hf j o)
  {X:List (Nat×Value)} {H:List (Nat×GN)} (um:Ob P n l m E w0 Q X S H) (hX:∀ t v,AR X t=some v->BL Sf t=some (Is v)) (hS:∀ q ∈ S,BL Sf q.1=some q.2) (hH:∀ q ∈ H,BL Hf q.1=some q.2) :
  ∀ (f:Nat) (U:List Nat) (listed:Array Bool) (a:Act) (w:World),f=(l.length - m)+U.length->U.Nodup->(∀ i,i ∈ U↔i<m/\listed.getD i false=false)->A38 P n l m Sf Hf E w0 listed a w->wpAny P .any l.toArray Q f listed a w:=by
 have Y:∀ {i:Nat} {o:Oper},i<m->l[i]?=some o->(l.take m)[i]?=some o:=fun B ho=>by rw[Dz B];exact ho
 have uj:∀ {i:Nat} {o:Oper} {d:Nat},i<m->l[i]?=some o->o.dst=some d->d ∈ Ec (l.take m):=fun B ho F=>UT.1 ⟨_,_,Y B ho,F⟩;have k0:∀ {f:Nat} {listed:Array Bool} {a:Act} {w:World},f=l.length - m->(∀ i,i<m->listed.getD i false=true)->A38 P n l m Sf Hf E w0 listed a w->wpAny P .any l.toArray Q f listed a w:=by
  intro f listed a w hf hL z;have u8:=K.le;refine A0L K.back K.last f m listed a w oo AO z.size hL z.noB ?_;have ko:Rg P (Tg w0 (Bl E (Cb (l.take m)))) w0 w:=by
   refine z.rel.weak ?_;rintro k _ (G | ⟨j,o,p,g,ho,_,I,hl⟩)
   ·exact .inl G
   ·exact .inr (JD hl (Na ⟨j,o,Y g ho,I⟩))
  have kz:∀ t φ,BL Sf t=some φ->∃ v,a.tmps[t]?=some v/\φ v w:=by
   intro t φ ht;have:t ∈ Ec (l.take m):=by rw[<- kt];exact Rz ht
   obtain⟨i,o,B,F⟩:=UT.2 this;have A:i<m:=by have:=(Au.1 B).1;simp at this;omega
   rw[Dz A]at B;exact z.facts i o t φ A B (hL i A) F ht
  obtain⟨E2,T,ux⟩:=Rv z.tmps z.defers S (X++E) (by
   intro k v W;rcases Zq W with G | G
   ·obtain⟨u,hu,Z⟩:=kz k _ (hX k v G);rw[hu];exact congrArg some Z
   ·exact z.base k v G) (fun t ψ ht=>kz t ψ (hS _ ht)) (um w ko)
  refine ux (A0T ?_) ?_ a T
  ·intro q hq v hv;have hl:=hH q hq;have:q.1 ∈ Cb (l.take m):=by rw[<- ub];exact Rz hl
   have un:∃ (i:Nat) (o:Oper),i<m/\l[i]?=some o/\CS o=some q.1:=by
    clear hv hl;have aux:∀ (r:List Oper),q.1 ∈ Cb r->∃ (i:Nat) (o:Oper),r[i]?=some o/\CS o=some q.1:=by
     intro r;induction r with
     | nil=>intro h;cases h
     | cons x r ih =>
      intro h;unfold Cb at h;split at h
      ·rename_i p I;rcases Cw.1 h with e | h
       ·exact⟨0,x,rfl,by rw[e];exact I⟩
       ·obtain⟨i,o,G,h2⟩:=ih h;exact⟨i+1,o,G,h2⟩
      ·obtain⟨i,o,G,h2⟩:=ih h;exact⟨i+1,o,G,h2⟩
    obtain⟨i,o,G,h2⟩:=aux _ this;have A:i<m:=by have:=(Au.1 G).1;simp at this;omega
    rw[Dz A]at G;exact⟨i,o,A,G,h2⟩
   obtain⟨i,o,A,B,I⟩:=un;obtain⟨u,hu,hχ⟩:=z.held i o q.1 q.2 A B (hL i A) I hl;have:=T.slots _ _ hv;rw[hu]at this;cases this;exact hχ
  ·intro t ht t' uz N v hv u2;obtain⟨i,oi,B,uc,ky⟩:=M0 ht;obtain⟨j,oj,g,hw,M⟩:=M0 uz;have A:i<m:=by have:=(Au.1 B).1;simp at this;omega
   have kl:j<m:=by have:=(Au.1 g).1;simp at this;omega
   rw[Dz A]at B;rw[Dz kl]at g;refine z.apart i j oi oj t t' v A kl ?_ B g (hL i A) (hL j kl) uc hw ky M (T.slots t v hv) (T.slots t' v u2);intro e;subst e;rw[B]at g;cases g;rw[ky]at M;cases M;exact N rfl
 intro f;induction f with
 | zero =>
  intro U listed a w hf hU hm z;have h0:U=[]:=FA oo;subst h0;refine k0 (by simpa using hf) ?_ z;intro i B;cases V:listed.getD i false with
  | true=>rfl
  | false=>have:=(hm i).2 ⟨B,V⟩;cases this
 | succ f ih =>
  intro U listed a w hf hU hm z;by_cases h0:U=[]
  ·subst h0;refine k0 (by simpa using hf) ?_ z;intro i B;cases V:listed.getD i false with
   | true=>rfl
   | false=>have:=(hm i).2 ⟨B,V⟩;cases this
  ·have k1:∀ i,i<l.length->listed.getD i true=listed.getD i false:=fun i B=>by
    have:i<listed.size:=by have:=z.size;omega
    simp[EK,this]
   have kw:∀ (i:Nat) (o:Oper),l[i]?=some o->(∀ e ∈ Cr o,listed.getD e false=true)->∀ j,((MZ [] l).getD i 0).testBit j=true->listed.getD j false=true :=
    Pp (l:=l) (L:=fun j=>listed.getD j false=true) z.closed l [] [] rfl rfl (fun j _ g=>by simp at g)
   constructor
   ·intro hr;exfalso;obtain⟨x,V⟩:=TJ U h0;have us:∀ b,∀ i,i<b->i<m->listed.getD i false=false->∃ i0,i0<m/\listed.getD i0 false=false/\∀ j,j<i0->listed.getD j false=true:=by
     intro b;induction b with
     | zero=>intro i B;omega
     | succ b ihb =>
      intro i B A kd;by_cases h8:∀ j,j<i->listed.getD j false=true
      ·exact⟨i,A,kd,h8⟩
      ·have:∃ j,j<i/\listed.getD j false=false:=by
        apply Classical.byContradiction;intro N;apply h8;intro j g;cases V:listed.getD j false with
        | true=>rfl
        | false=>exact absurd ⟨j,g,V⟩ N
       obtain⟨j,g,s⟩:=this;exact ihb j oo oo s
    obtain⟨i0,u7,uq,ue⟩:=us (x+1) x oo ((hm x).1 V).1 ((hm x).1 V).2;have kk:i0<l.length:=by have:=K.le;omega
    have:i0 ∈ Region.ready .any l.toArray listed:=by refine mem_ready.2 ⟨by rw[k1 i0 kk];exact uq,l[i0],by simp[kk],fun e Z J=>ue _ ?_⟩;exact K.back i0 l[i0] (DH kk) e.on (GL.2 ⟨e,Z,J,rfl⟩)
    rw[hr]at this;cases this
   ·intro i B;obtain⟨h3,o,ho,ud⟩:=mem_ready.1 B;have kd:i<l.length:=by have:=(Gt.1 ho).1;simpa using this
    have C:l[i]?=some o:=by simpa using ho
    rw[k1 i kd]at h3;have kc:∀ e ∈ Cr o,listed.getD e false=true:=fun e Z=>by obtain⟨e',h5,h6,h7⟩:=GL.1 Z;subst h7;exact ud e' h5 h6
    have A:i<m:=by
     rcases Dl i m with h | h
     ·exact h
     ·exfalso;obtain⟨x,V⟩:=TJ U h0;have u5:=(hm x).1 V;have:=kw i o C kc x (K.last i h kd x oo);rw[u5.2]at this;cases this
    have ko:Rg P (Tg w0 (Bl E (HN l m i))) w0 w:=by
     refine z.rel.weak ?_;rintro k _ (G | ⟨j,oj,p,g,y,s,I,hl⟩)
     ·exact .inl G
     ·refine .inr (JD hl (Wp (l.take m) 0 j oj (Y g y) I ?_));rw[AE];cases J:((MZ [] l).getD j 0).testBit i with
      | false=>rfl
      | true =>
       have:=kw j oj y (fun e Z=>z.closed j oj y s e Z) i J;rw[h3]at this;cases this
    obtain⟨E2,T,O⟩:=uy i o A C w a ko z.tmps z.defers z.base (fun t ht φ hφ=>by obtain⟨j,oj,g,y,M,up⟩:=K.pred i o A C t ht (by rw[<- kt];exact Rz hφ);exact z.facts j oj t φ g y (kc j up) M hφ)
    have k2:i ∈ U:=(hm i).2 ⟨A,h3⟩;have R:∀ j,(listed.setIfInBounds i true).getD j false=if j=i then true else listed.getD j false:=by
     intro j;simp only[EK];by_cases e:j=i
     ·subst e;simp[z.size,kd]
     ·rw[Iq (fun e'=>e e'.symm),if_neg e]
    have ku:f=l.length - m+(U.erase i).length:=by have u9:0<U.length:=List.length_pos_of_mem k2;rw[List.length_erase_of_mem k2];omega
    have kv:∀ j,j ∈ U.erase i↔j<m/\(listed.setIfInBounds i true).getD j false=false:=by
     intro j;rw[hU.mem_erase_iff,R];constructor
     ·rintro⟨N,g⟩;rw[if_neg N];exact (hm j).1 g
     ·rintro⟨g,kf⟩;by_cases e:j=i
      ·rw[if_pos e]at kf;cases kf
      ·rw[if_neg e]at kf;exact⟨e,(hm j).2 ⟨g,kf⟩⟩
    have kx:∀ j oj,l[j]?=some oj->(listed.setIfInBounds i true).getD j false=true->∀ e ∈ Cr oj,(listed.setIfInBounds i true).getD e false=true:=by
     intro j oj g s e Z;rw[R]at s ⊢;by_cases e1:e=i
     ·rw[if_pos e1]
     ·rw[if_neg e1];by_cases e2:j=i
      ·subst e2;rw[C]at g;cases g;exact kc e Z
      ·rw[if_neg e2]at s;exact z.closed j oj g s e Z
    have k8:∀ j,m<=j->(listed.setIfInBounds i true).getD j false=false:=by intro j g;rw[R,if_neg oo];exact z.noB j g
    have ua:∀ {w2:World},Rg P (fun k=>w0.heap.size<=k\/∃ j o p,j<m/\l[j]?=some o/\(listed.setIfInBounds i true).getD j false=true/\CS o=some p/\AR E p=some (.pointer (some ⟨k,0,none⟩))) w w2->Rg P (fun k=>w0.heap.size<=k\/∃ j o p,j<m/\l[j]?=some o/\(listed.setIfInBounds i true).getD j false=true/\CS o=some p/\AR E p=some (.pointer (some ⟨k,0,none⟩))) w0 w2:=by
     intro w2 h;refine Rg.trans (z.rel.weak ?_) h;rintro k _ (G | ⟨j,oj,p,g,y,s,I,hl⟩)
     ·exact .inl G
     ·refine .inr ⟨j,oj,p,g,y,?_,I,hl⟩;rw[R];split
      ·rfl
      ·exact s
    unfold wpOp;simp only[ho];rcases O with ⟨d,ψ,F,hψ,O⟩ | ⟨p,χ,I,hχ,O⟩
    ·have kj:d ∈ Ec (l.take m):=uj A C F;have uk:d<n:=ut d kj;have next:∀ v w2,(Ac w w2/\ψ v w2/\A0S o w v w2)->wpAny P .any l.toArray Q f (listed.setIfInBounds i true) (a.put o.dst v) w2:=by
      rintro v w2 ⟨ki,uw,k6⟩;have hy:∀ {t:Nat} {u:Value},t≠d->a.tmps[t]?=some u->(a.put o.dst v).tmps[t]?=some u:=by intro t u N hu;simp only[F,Act.put];rw[Iq (fun e=>N e.symm)];exact hu
      have kp:(a.put o.dst v).tmps[d]?=some v:=by simp[F,Act.put,z.tmps,uk]
      refine ih (U.erase i) _ _ w2 ku (hU.erase i) kv ⟨by simpa using z.size,kx,by simp[F,Act.put,z.tmps],by simp[F,Act.put,z.defers],?_,?_,?_,ua ki.rg,k8,?_,?_⟩
      ·intro k u W;refine hy ?_ (z.base k u W);intro e;subst e;rw[uo k kj]at W;cases W
      ·intro j oj d' φ g y s D hφ;rw[R]at s;by_cases e:j=i
       ·subst e;rw[C]at y;cases y;rw[F]at D;cases D;rw[hψ]at hφ;cases hφ;exact⟨v,kp,uw⟩
       ·rw[if_neg e]at s;obtain⟨u,hu,ks⟩:=z.facts j oj d' φ g y s D hφ;refine⟨u,hy ?_ hu,k4 _ (JY hφ) u w w2 ki.rg ks⟩;intro e';subst e';exact e (Qt K.ndd (Y g y) (Y A C) D F)
      ·intro j oj q ξ g y s hq hξ;rw[R]at s;have e:j≠i:=by intro e;subst e;rw[C]at y;cases y;simp[CS,F]at hq
       rw[if_neg e]at s;obtain⟨u,hu,kr⟩:=z.held j oj q ξ g y s hq hξ;refine⟨u,hy ?_ hu,(k5 _ (JY hξ)).1 u w w2 ki kr⟩;intro e';subst e';by_cases k3:q ∈ Ec (l.take m)
       ·obtain⟨x,ox,V,uv,ul,_,u3⟩:=K.slot j oj q g y hq k3;have u4:=Qt K.ndd (Y V uv) (Y A C) ul F;subst u4;have:=z.closed j oj y s x u3;rw[h3]at this;cases this
       ·exact k3 kj
      ·intro j oj d' g y s hs D;rw[R]at s;by_cases e:j=i
       ·subst e;rw[C]at y;cases y;rw[F]at D;cases D;obtain⟨b,rfl,h9,J⟩:=k6 hs;exact⟨b,kp,Ar z.rel.size h9,J⟩
       ·rw[if_neg e]at s;obtain⟨b,J,h9,ka⟩:=z.made j oj d' g y s hs D;refine⟨b,hy ?_ J,h9,CW ka ki.size⟩;intro e';subst e';exact e (Qt K.ndd (Y g y) (Y A C) D F)
      ·have km:∀ j oj d' u,j<m->j≠i->l[j]?=some oj->listed.getD j false=true->Cg oj.op=true->oj.dst=some d'->(a.put o.dst v).tmps[d']?=some u->a.tmps[d']?=some u/\∃ b,u=.pointer (some ⟨b,0,none⟩)/\b<w.heap.size:=by intro j oj d' u g N y s hs D hu;obtain⟨b,J,_,ka⟩:=z.made j oj d' g y s hs D;have uu:d'≠d:=fun e'=>N (Qt K.ndd (Y g y) (Y A C) (by rw[D,e']) F);rw[hy uu J]at hu;cases hu;exact⟨J,b,rfl,ka⟩
       have k7:Cg o.op=true->∀ u,(a.put o.dst v).tmps[d]?=some u->∃ b,u=.pointer (some ⟨b,0,none⟩)/\w.heap.size<=b:=by intro hs u hu;obtain⟨b,J,h9,_⟩:=k6 hs;rw[kp]at hu;cases hu;exact⟨b,J,h9⟩
       intro j k oj ok dj dk u g W N y hn s ha hw hz M hh kh ke;rw[R]at s ha;by_cases e1:j=i
       ·subst e1;have e2:¬ k=j:=fun e=>N e.symm;rw[if_neg e2]at ha;rw[C]at y;cases y;rw[F]at M;cases M;obtain⟨_,b,J,ka⟩:=km k ok dk u W e2 hn ha hz hh ke;obtain⟨b',hg,uf⟩:=k7 hw u kh;rw[J]at hg;cases hg;omega
       ·rw[if_neg e1]at s;obtain⟨u0,b,J,ka⟩:=km j oj dj u g e1 y s hw M kh;by_cases e2:k=i
        ·subst e2;rw[C]at hn;cases hn;rw[F]at hh;cases hh;obtain⟨b',hg,uf⟩:=k7 hz u ke;rw[J]at hg;cases hg;omega
        ·rw[if_neg e2]at ha;obtain⟨u1,_⟩:=km k ok dk u W e2 hn ha hz hh ke;exact z.apart j k oj ok dj dk u g W N y hn s ha hw hz M hh u0 u1
     rcases O with ⟨hwant,O⟩ | ⟨hwant,O⟩
     ·rw[if_pos (CL T hwant)];exact .inl (O a T Q _ next)
     ·rw[if_neg (by rw[CL T hwant];simp)];exact next undef w O
    ·have kb:o.dst=none:=by
      unfold CS at I;split at I
      ·assumption
      ·cases I
     have next:∀ v w2,(∃ b,AR E2 p=some (.pointer (some ⟨b,0,none⟩))/\CE b w w2/\Oa P b w w2/\χ (.pointer (some ⟨b,0,none⟩)) w2)->wpAny P .any l.toArray Q f (listed.setIfInBounds i true) (a.put o.dst v) w2:=by
      rintro v w2 ⟨b,ur,hu,kq,u6⟩;have hy:a.put o.dst v=a:=by rw[kb];rfl
      rw[hy];have kn:=T.slots p _ ur;obtain⟨b',hg,uh⟩:=z.ptr K h8 k9 A C I kc;rw[kn]at hg;simp only[AP,Value.pointer.injEq,FF,and_true]at hg;subst hg;refine ih (U.erase i) _ _ w2 ku (hU.erase i) kv ⟨by simpa using z.size,kx,z.tmps,z.defers,z.base,?_,?_,ua (Rg.bW hu kq ?_),k8,?_,?_⟩
      ·intro j oj d' φ g y s D hφ;rw[R]at s;have e:j≠i:=by intro e;subst e;rw[C]at y;cases y;rw[kb]at D;cases D
       rw[if_neg e]at s;obtain⟨u,kg,ks⟩:=z.facts j oj d' φ g y s D hφ;exact⟨u,kg,k4 _ (JY hφ) u w w2 (Rg.bW hu kq trivial) ks⟩
      ·intro j oj q ξ g y s hq hξ;rw[R]at s;by_cases e:j=i
       ·subst e;rw[C]at y;cases y;rw[I]at hq;cases hq;rw[hχ]at hξ;cases hξ;exact⟨_,kn,u6⟩
       ·rw[if_neg e]at s;obtain⟨u,kg,kr⟩:=z.held j oj q ξ g y s hq hξ;refine⟨u,kg,(k5 _ (JY hξ)).2 u w w2 b hu kq ?_ kr⟩;intro e';subst e';exact z.ptr_ne K h8 k9 g A e y C hq I (z.closed j oj y s) kc kg kn
      ·rcases uh with ⟨_,h4⟩ | ⟨_,_,h4,_⟩
       ·exact .inl h4
       ·exact .inr ⟨i,o,p,A,C,by rw[R,if_pos rfl],I,h4⟩
      ·intro j oj d' g y s hs D;rw[R]at s;have e:j≠i:=by intro e;subst e;rw[C]at y;cases y;rw[kb]at D;cases D
       rw[if_neg e]at s;obtain⟨c,hc,ug,ui⟩:=z.made j oj d' g y s hs D;exact⟨c,hc,ug,CW ui hu.size⟩
      ·intro j k oj ok dj dk u g W N y hn s ha hw hz M hh kh ke;rw[R]at s ha;have e1:j≠i:=by intro e;subst e;rw[C]at y;cases y;rw[kb]at M;cases M
       have e2:k≠i:=by intro e;subst e;rw[C]at hn;cases hn;rw[kb]at hh;cases hh
       rw[if_neg e1]at s;rw[if_neg e2]at ha;exact z.apart j k oj ok dj dk u g W N y hn s ha hw hz M hh kh ke
     rcases O with ⟨hwant,O⟩ | ⟨hwant,O⟩
     ·rw[if_pos (CL T hwant)];exact .inl (O a T Q _ next)
     ·rw[if_neg (by rw[CL T hwant];simp)];exact next undef w O
theorem St.flow (m:Nat) {w:World}(s:P.follows .mixedOrders=true) (p:US l m=true) (B:Ss (Ec (l.take m)) E=true) (F:(Ec (l.take m)).all (fun d=>Nat.blt d n)=true)
  (x:M6 E (DX l m)=true) (I:Wq w (Bl E (DX l m))) (h:FL P n l m E w (Ob P n l m E w Q) 0 [] [] [] (l.take m)):St P n E w (.region id l.toArray true) Q:=by
 intro a g;have e:=Zo p;refine wp_region_any s ?_;have D:=e.le;obtain⟨Sf,Hf,k,q,t,b,⟨X,S,H,f,r,u,y⟩,z⟩:=A6u D e.ndd e.nds (l.take m) [] [] [] [] [] [] rfl rfl rfl (by simp[AR]) sm sm h;simp only[HX]at k q r u y z;have c:∀ i,(Array.replicate l.toArray.size false).getD i false=false:=by intro i;simp[EK,Array.getElem?_replicate];split <;> simp
 refine A7T e k q t b (UJ B) (fun d A=>by simpa[Kg] using Eu.1 F d A) x I (fun j o C G=>z j o BI C G) f r u y l.toArray.size (List.range m) _ a _ (by simp;omega) List.nodup_range ?_
  ⟨by simp,?_,g.size,g.defers,g.slots,?_,?_,⟨rfl,rfl,rfl,Ai _,fun _ _=>.inl rfl⟩,?_,?_,?_⟩
 ·intro i;rw[CZ,c];simp
 ·intro i o _ h;rw[c]at h;cases h
 ·intro i o d ψ _ _ h;rw[c]at h;cases h
 ·intro i o d ψ _ _ h;rw[c]at h;cases h
 ·intro i _;exact c i
 ·intro i o d _ _ h;rw[c]at h;cases h
 ·intro i j oi oj J dj v _ _ _ _ _ h;rw[c]at h;cases h
theorem sF {w:World}(m:Nat) (h:FL P n l m E w (Ob P n l m E w Q) 0 [] [] [] (l.take m)) (e:P.follows .mixedOrders=true:=by exact Dv) (c:US l m=true:=by kernel_rfl) (j:Ss (Ec (l.take m)) E=true:=by exact rfl) (k:(Ec (l.take m)).all (fun d=>Nat.blt d n)=true:=by kernel_rfl) (g:M6 E (DX l m)=true:=by exact rfl) (o:Wq w (Bl E (DX l m)):=by exact True.intro):St P n E w (.region id l.toArray true) Q:=St.flow m e c j k g o h
end Go.Qf
