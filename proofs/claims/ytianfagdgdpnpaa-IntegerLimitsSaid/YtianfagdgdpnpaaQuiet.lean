/- Regions that draw their order and only read: one walk in the order of the text. And the goals of 'St.draw', by kind. -/
import Derived.Test.YtianfagdgdpnpaaDraw
namespace Go.Qf
open Go Go.RowKit

def QL (P : Program) (n : Nat) (E : List (Nat × Value)) (w : World) (ops : Array Oper) (l : List Oper) (Q : Exit → Act → World → Prop) : Prop :=
  ∀ a, Fits n E a → wpQuiet P ops (fun w' => ∃ m, w' = w.drewN m) (fun a' => ∀ w', (∃ m, w' = w.drewN m) → Q .normal a' w') l a

section
variable {P : Program} {T : List (Nat × TI)} {n : Nat} {E : List (Nat × Value)} {w : World} {Q : Exit → Act → World → Prop} {ops : Array Oper} {rest : List Oper}

theorem QL.nil (h : ∀ m, Out n E (w.drewN m) .normal Q) : QL P n E w ops [] Q := fun a ha => wpQuiet_nil (by rintro w' ⟨m, rfl⟩; exact h m a ha)

theorem QL.step {o : Oper} {d : Nat} {v : Value} (hd : o.dst = some d) (hw : wantE ops E o.guard = some true) (hn : Nat.blt d n = true) (h : ∀ m, RunsTo P n o E (w.drewN m) v) (next : QL P n ((d, v) :: E) w ops rest Q) : QL P n E w ops (o :: rest) Q := by
  intro a ha
  refine wpQuiet_step fun K hK => ?_
  rw [if_pos (wantE_spec ha hw)]
  refine ⟨v, ?_, hK _ (next _ (by rw [hd]; exact ha.put hn v))⟩
  rintro w' ⟨m, rfl⟩
  unfold Oper.quietAt
  rw [h m a ha]
  exact ⟨rfl, rfl⟩

theorem QL.skip {o : Oper} {d : Nat} (hd : o.dst = some d) (hw : wantE ops E o.guard = some false) (hn : Nat.blt d n = true) (next : QL P n ((d, undef) :: E) w ops rest Q) : QL P n E w ops (o :: rest) Q := by
  intro a ha
  refine wpQuiet_step fun K hK => ?_
  rw [if_neg (by rw [wantE_spec ha hw]; simp)]
  exact hK _ (next _ (by rw [hd]; exact ha.put hn undef))

theorem QL.run (hT : TblOk P T) : ∀ (m : Nat) {E E' : List (Nat × Value)} {l l' : List Oper}, runPure T n ops m E l = (E', l') → QL P n E' w ops l' Q → QL P n E w ops l Q := by
  intro m
  induction m with
  | zero => intro E E' l l' h hn; simp only [runPure, Prod.mk.injEq] at h; obtain ⟨rfl, rfl⟩ := h; exact hn
  | succ m ih =>
    intro E E' l l' h hn
    cases l with
    | nil => simp only [runPure, Prod.mk.injEq] at h; obtain ⟨rfl, rfl⟩ := h; exact hn
    | cons o r =>
      simp only [runPure] at h
      split at h
      · rename_i d hd hw
        cases hb : Nat.blt d n with
        | false => rw [hb] at h; simp only [cond_false, Prod.mk.injEq] at h; obtain ⟨rfl, rfl⟩ := h; exact hn
        | true =>
          rw [hb] at h
          simp only [cond_true] at h
          split at h
          · rename_i v hv
            exact QL.step hd hw hb (fun _ => RunsTo.pure hT hv) (ih h hn)
          · simp only [Prod.mk.injEq] at h; obtain ⟨rfl, rfl⟩ := h; exact hn
      · rename_i d hd hw
        cases hb : Nat.blt d n with
        | false => rw [hb] at h; simp only [cond_false, Prod.mk.injEq] at h; obtain ⟨rfl, rfl⟩ := h; exact hn
        | true =>
          rw [hb] at h
          simp only [cond_true] at h
          exact QL.skip hd hw hb (ih h hn)
      · simp only [Prod.mk.injEq] at h; obtain ⟨rfl, rfl⟩ := h; exact hn

theorem QL.as (hT : TblOk P T) (m : Nat) {E' : List (Nat × Value)} {l l' : List Oper} {d : Nat} {v : Value} (v' : Value) (h : runPure T n ops m E l = ((d, v) :: E', l')) (hv : v = v') (hn : QL P n ((d, v') :: E') w ops l' Q) : QL P n E w ops l Q :=
  QL.run hT m (hv ▸ h) hn

/-- 'x[i]' read: two operations. -/
theorem QL.elem (hT : TblOk P T) {d1 d2 : Nat} {t u : TypeId} {x i : Operand} {ty ty2 : TypeId} {pos pos2 : String} {af af2 : Array Edge} {g g2 : Option (Nat × Bool)} {et : TypeId} {s1 s2 : Nat} {z : Value} {ti : TI} {sv : Value} {cs : List Value} {k : IntKind} {iv : Int} (j : Nat) (c : Value)
    (hr : Row et w sv cs) (hc : cs[j]? = some c) (hj : iv = j)
    (ht : lookT T t = some ⟨.slice et, s1, s2, z⟩) (hte : lookT T et = some ti) (hsz : ti.size = 1) (hag : isAggD ti.desc = false) (hu : u = et)
    (hx : ov E x = some sv) (hi : ov E i = some (.int k iv)) (hg : wantE ops E g = some true) (hn : Nat.blt d1 n = true) (hn2 : Nat.blt d2 n = true) (hg2 : ∀ p, wantE ops ((d1, p) :: E) g2 = some true)
    (next : ∀ p, QL P n ((d2, c) :: (d1, p) :: E) w ops rest Q) :
    QL P n E w ops (⟨some d1, .indexAddr t x i, ty, pos, af, g⟩ :: ⟨some d2, .load u (.tmp d1), ty2, pos2, af2, g2⟩ :: rest) Q := by
  obtain ⟨a, cap, hsv, hcell⟩ := hr.get hc
  have hlt : j < cs.length := (List.getElem?_eq_some_iff.1 hc).1
  subst hu
  rw [hsv] at hx
  refine QL.step rfl hg hn (fun m => RunsTo.indexAddr hT ht hte hsz hx hi (by omega) (by omega)) ?_
  rw [show iv.toNat = j from by omega]
  have hl : ov ((d1, .pointer (some (a.add j))) :: E) (.tmp d1) = some (.pointer (some (a.add j))) := look_cons_self _ _ _
  exact QL.step rfl (hg2 _) hn2 (fun m => RunsTo.load hT hte hag hl hcell) (next _)

theorem St.quiet {id : Nat} {l : List Oper} (hP : P.follows .mixedOrders = true) (hB : Region.lexB .any l.toArray = true) (h : QL P n E w l.toArray l Q) : St P n E w (.region id l.toArray true) Q :=
  fun a ha => wp_region_quiet_lit hP hB (h a ha)

/-! ### The goals of 'St.draw' -/
theorem OpG.run {o : Oper} {d : Nat} {ψ : Psi} {S : List (Nat × Psi)} {v : Value} (hd : o.dst = some d) (hS : lookP S d = some ψ) (hal : isAlloc o.op = false) (hw : wantE ops E o.guard = some true) (h : RunsTo P n o E w v) (hψ : ψ v w) : OpG P n ops o E w (After o S w) := by
  refine .inl ⟨hw, h.op.mono ?_⟩
  rintro v' w' ⟨rfl, rfl⟩
  refine ⟨Ext.refl _, fun d' φ h1 h2 => ?_, fun e => by rw [hal] at e; cases e⟩
  rw [hd] at h1; cases h1
  rw [hS] at h2; cases h2
  exact hψ

theorem OpG.pure (hT : TblOk P T) {o : Oper} {d : Nat} {ψ : Psi} {S : List (Nat × Psi)} {v : Value} (hd : o.dst = some d) (hS : lookP S d = some ψ) (hal : isAlloc o.op = false) (hw : wantE ops E o.guard = some true) (h : pureOp T E o.op = some v) (hψ : ψ v w) : OpG P n ops o E w (After o S w) :=
  OpG.run hd hS hal hw (RunsTo.pure hT h) hψ

theorem OpG.skip {o : Oper} {d : Nat} {ψ : Psi} {S : List (Nat × Psi)} (hd : o.dst = some d) (hS : lookP S d = some ψ) (hal : isAlloc o.op = false) (hw : wantE ops E o.guard = some false) (hψ : ψ undef w) : OpG P n ops o E w (After o S w) := by
  refine .inr ⟨hw, Ext.refl _, fun d' φ h1 h2 => ?_, fun e => by rw [hal] at e; cases e⟩
  rw [hd] at h1; cases h1
  rw [hS] at h2; cases h2
  exact hψ

theorem OpG.op {o : Oper} {d : Nat} {ψ : Psi} {S : List (Nat × Psi)} {Φ : Value → World → Prop} (hd : o.dst = some d) (hS : lookP S d = some ψ) (hal : isAlloc o.op = false) (hw : wantE ops E o.guard = some true) (h : OpR P n o E w Φ) (hψ : ∀ v w', Φ v w' → Ext w w' ∧ ψ v w') : OpG P n ops o E w (After o S w) := by
  refine .inl ⟨hw, h.mono ?_⟩
  intro v' w' hv
  refine ⟨(hψ v' w' hv).1, fun d' φ h1 h2 => ?_, fun e => by rw [hal] at e; cases e⟩
  rw [hd] at h1; cases h1
  rw [hS] at h2; cases h2
  exact (hψ v' w' hv).2

theorem OpG.call {f : FuncId} {fn : Func} (hF : IsFn P f fn) {d : Nat} {args : Array Operand} {tys : Array TypeId} {ty : TypeId} {pos : String} {af : Array Edge} {g : Option (Nat × Bool)} {vs : List Value} {Φ : Value → World → Prop} {ψ : Psi} {S : List (Nat × Psi)}
    (hS : lookP S d = some ψ) (hw : wantE ops E g = some true) (hargs : ovs E args.toList = some vs) (hc : Calls P f vs.toArray w (Ret Φ)) (hψ : ∀ v w', Φ v w' → Ext w w' ∧ ψ v w') :
    OpG P n ops ⟨some d, .call ⟨.value (.func f), args, tys⟩, ty, pos, af, g⟩ E w (After ⟨some d, .call ⟨.value (.func f), args, tys⟩, ty, pos, af, g⟩ S w) :=
  OpG.op rfl hS rfl hw (OpR.call hF hargs hc) hψ

theorem OpG.alloc (hT : TblOk P T) {d : Nat} {t : TypeId} {ty : TypeId} {pos : String} {af : Array Edge} {g : Option (Nat × Bool)} {ti : TI} {ψ : Psi} {S : List (Nat × Psi)} (hS : lookP S d = some ψ) (hw : wantE ops E g = some true) (ht : lookT T t = some ti)
    (hψ : ∀ b w', w.heap.size ≤ b → Blk t w' b ti.zero.cells.toList → ψ (.pointer (some ⟨b, 0, none⟩)) w') : OpG P n ops ⟨some d, .alloc t, ty, pos, af, g⟩ E w (After ⟨some d, .alloc t, ty, pos, af, g⟩ S w) := by
  refine .inl ⟨hw, (OpR.alloc hT ht).mono ?_⟩
  rintro v w' ⟨rfl, hb, hx, hs⟩
  refine ⟨hx, fun d' φ h1 h2 => ?_, fun _ => ⟨_, rfl, Nat.le_refl _, by omega⟩⟩
  cases h1
  rw [hS] at h2; cases h2
  exact hψ _ w' (Nat.le_refl _) hb

end

/-- An exact value. -/
def Is (c : Value) : Psi := fun v _ => v = c
theorem Is.mono (c : Value) : ∀ v (w w' : World), Ext w w' → Is c v w → Is c v w' := fun _ _ _ _ h => h

end Go.Qf
