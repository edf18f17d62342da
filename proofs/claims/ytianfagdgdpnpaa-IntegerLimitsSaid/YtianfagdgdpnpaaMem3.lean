/- Slice expressions, calls, appends, and two operations at once: an element read or written. -/
import Derived.Test.YtianfagdgdpnpaaMem2
namespace Go.Qf
open Go Go.RowKit

/-- The function has a text of its own. -/
structure IsFn (P : Program) (f : FuncId) (fn : Func) : Prop where
  func : P.funcs[f]? = some fn
  name : (fn.name == "runtime.NumGoroutine") = false
  body : fn.body.isNone = false

def ovs (E : List (Nat × Value)) : List Operand → Option (List Value)
  | [] => some []
  | x :: r => match ov E x, ovs E r with
    | some v, some vs => some (v :: vs)
    | _, _ => none

theorem ovs_map {n : Nat} {E : List (Nat × Value)} {a : Act} (ha : Fits n E a) : ∀ (xs : List Operand) (vs : List Value), ovs E xs = some vs → xs.map a.eval = vs := by
  intro xs
  induction xs with
  | nil => intro vs h; simp only [ovs, Option.some.injEq] at h; subst h; rfl
  | cons x r ih =>
    intro vs h
    simp only [ovs] at h
    split at h
    · rename_i v us hv hr
      simp only [Option.some.injEq] at h
      subst h
      simp only [List.map_cons, ha.eval hv, ih us hr]
    · cases h

section
variable {P : Program} {T : List (Nat × TI)} {n : Nat} {E : List (Nat × Value)} {w : World}

theorem OpR.call {f : FuncId} {fn : Func} (hF : IsFn P f fn) {d : Option Tmp} {args : Array Operand} {tys : Array TypeId} {ty : TypeId} {pos : String} {af : Array Edge} {g : Option (Nat × Bool)} {vs : List Value} {Φ : Value → World → Prop}
    (hargs : ovs E args.toList = some vs) (hc : Calls P f vs.toArray w (Ret Φ)) :
    OpR P n ⟨d, .call ⟨.value (.func f), args, tys⟩, ty, pos, af, g⟩ E w Φ := by
  intro a ha Q K hK
  have hm := ovs_map ha _ _ hargs
  have hA : args.map a.eval = vs.toArray := by
    rw [← hm]
    apply Array.toList_inj.1
    simp
  have hev : a.eval (.func f) = .func (.func f) #[] #[] := rfl
  have hrun : (execOp a.eval ⟨d, .call ⟨.value (.func f), args, tys⟩, ty, pos, af, g⟩).run P w = .ok (.enter f vs.toArray) w := by
    simp only [execOp, resolve, hev, Deferred.ofValue, hA, Sem.run_bind, Sem.run_pure, Result.andThen_ok, invoke, callFunc]
    simp only [Array.append_empty, Array.empty_append]
    have hp : (program).run P w = .ok P w := by simp [go_sem]
    simp only [hp, Result.andThen_ok, hF.func, hF.name, hF.body, Bool.false_eq_true, if_false, Sem.run_pure]
  unfold Oper.wp
  rw [hrun, Oper.upon_enter]
  refine hc.mono ?_
  rintro e w' ⟨v, rfl, hv⟩
  exact hK v w' hv

theorem addr_add (b off l : Nat) : Addr.add ⟨b, off, none⟩ l = ⟨b, off + l, none⟩ := by
  unfold Addr.add
  split
  · rename_i h0; subst h0; rfl
  · rfl

/-- x[:h] -/
theorem RunsTo.sliceHi (hT : TblOk P T) {d : Option Tmp} {t : TypeId} {x y : Operand} {ty : TypeId} {pos : String} {af : Array Edge} {g : Option (Nat × Bool)} {et : TypeId} {s1 s2 : Nat} {z : Value} {ti : TI} {p : Option Addr} {len cap : Nat} {k : IntKind} {iv : Int}
    (ht : lookT T t = some ⟨.slice et, s1, s2, z⟩) (hte : lookT T et = some ti) (hx : ov E x = some (.slice p len cap)) (hy : ov E y = some (.int k iv)) (h0 : 0 ≤ iv) (h1 : iv ≤ cap) :
    RunsTo P n ⟨d, .slice t x none (some y) none, ty, pos, af, g⟩ E w (.slice p iv.toNat cap) := by
  intro a ha
  have e1 := ha.eval hx
  have e2 := ha.eval hy
  generalize a.eval = ρ at e1 e2
  simp [execOp, Instr.sliceAt, Instr.slice, Instr.sliceBounds, Instr.sliceBound, e1, e2, run_underlying_T hT ht, run_sizeOf_T hT hte, h0, h1, asIntOf, go_sem]

/-- x[l:h], l below the capacity -/
theorem RunsTo.sliceLoHi (hT : TblOk P T) {d : Option Tmp} {t : TypeId} {x u y : Operand} {ty : TypeId} {pos : String} {af : Array Edge} {g : Option (Nat × Bool)} {et : TypeId} {s1 s2 : Nat} {z : Value} {ti : TI} {b off len cap : Nat} {k k' : IntKind} {iv jv : Int}
    (ht : lookT T t = some ⟨.slice et, s1, s2, z⟩) (hte : lookT T et = some ti) (hsz : ti.size = 1) (hx : ov E x = some (.slice (some ⟨b, off, none⟩) len cap)) (hu : ov E u = some (.int k' jv)) (hy : ov E y = some (.int k iv)) (h0 : 0 ≤ jv) (h1 : jv ≤ iv) (h2 : iv ≤ cap) (h3 : jv < cap) :
    RunsTo P n ⟨d, .slice t x (some u) (some y) none, ty, pos, af, g⟩ E w (.slice (some ⟨b, off + jv.toNat, none⟩) (iv.toNat - jv.toNat) (cap - jv.toNat)) := by
  intro a ha
  have e1 := ha.eval hx
  have e2 := ha.eval hy
  have e3 := ha.eval hu
  generalize a.eval = ρ at e1 e2 e3
  have hne : ¬ cap = jv.toNat := by omega
  have hi0 : 0 ≤ iv := by omega
  have hle : jv ≤ ((iv.toNat : Nat) : Int) := by omega
  simp [execOp, Instr.sliceAt, Instr.slice, Instr.sliceBounds, Instr.sliceBound, e1, e2, e3, run_underlying_T hT ht, run_sizeOf_T hT hte, hsz, h0, h2, hi0, asIntOf, hne, addr_add, Int.max_eq_left hi0, h1, go_sem]

theorem run_append_from_nil {base : Nat} {t e ty : TypeId} {v : Value} {cs : List Value} (ht : P.underlying t = some (.slice e)) {inf : TypeInfo} (hi : P.info? e = some inf) (hown : Own base e w v cs) (m c : Nat) (hm : m = 0) :
    (Builtin.append_ #[t, t] ty #[v, .slice none m c]).run P w = .ok v w := by
  subst hm
  rcases hown.2 with ⟨hv, h0⟩ | ⟨g, cap, cur, hv, _, hg, hn, _, hs, ht2⟩
  · rw [hv]
    simp [Builtin.append_, run_underlying ht, sizeOf, typeInfo, hi, Builtin.lenOf, Builtin.firstCells, go_sem]
  · rw [hv]
    simp [Builtin.append_, run_underlying ht, sizeOf, typeInfo, hi, Builtin.lenOf, Builtin.firstCells, hn, storeCells, go_sem]

theorem grownBy_refl (w : World) (r : Option Nat) : w.grownBy w r := ⟨rfl, rfl, rfl, Nat.le_refl _, fun _ _ _ => rfl⟩

theorem Ext.grown {w0 w' : World} {base : Nat} {e : TypeId} {v : Value} {cs : List Value} (h : Ext w0 w) (hown : Own base e w v cs) (hb : w0.heap.size ≤ base) (hg : w.grownBy w' v.ownBlock) : Ext w0 w' := by
  refine ⟨hg.os.trans h.os, hg.tape.trans h.tape, hg.output.trans h.output, Nat.le_trans h.size hg.size, fun k hk => ?_⟩
  refine (hg.block k (Nat.lt_of_lt_of_le hk h.size) ?_).trans (h.block k hk)
  intro he
  have := (hown.lt k he.symm).1
  omega

/-- append(v, u...): v a slice of the call's own (or nil), u any slice of elements of one cell. -/
theorem OpR.append (hT : TblOk P T) {d : Option Tmp} {t : TypeId} {s x : Operand} {ty : TypeId} {pos : String} {af : Array Edge} {g : Option (Nat × Bool)} {et : TypeId} {s1 s2 : Nat} {z : Value} {ti : TI} {base : Nat} {v u : Value} {cs ds : List Value}
    (ht : lookT T t = some ⟨.slice et, s1, s2, z⟩) (hte : lookT T et = some ti) (hsz : ti.size = 1) (hz : ti.zero.cells.size = 1) (hs : ov E s = some v) (hx : ov E x = some u) (hown : Own base et w v cs) (hr : Row et w u ds) (h1 : ∀ c ∈ ds, c.oneCell' = true)
    (hlen : cs.length + ds.length ≤ 1000000000000) (hbytes : (cs.length + ds.length) * ti.bytes ≤ 1000000000000) (hbase : base ≤ w.heap.size) :
    OpR P n ⟨d, .call ⟨.builtin .append, #[s, x], #[t, t]⟩, ty, pos, af, g⟩ E w (fun v' w' => Own base et w' v' (cs ++ ds) ∧ w.grownBy w' v.ownBlock ∧ (v' = .slice none 0 0 ↔ v = .slice none 0 0 ∧ ds = [])) := by
  intro a ha Q K hK
  obtain ⟨hu1, _⟩ := hT t _ ht
  obtain ⟨_, inf, hi, hsize, hby, hzero⟩ := hT et ti hte
  have e1 := ha.eval hs
  have e2 := ha.eval hx
  have key : ∃ v' w', (Builtin.append_ #[t, t] ty #[v, u]).run P w = .ok v' w' ∧ Own base et w' v' (cs ++ ds) ∧ w.grownBy w' v.ownBlock ∧ (v' = .slice none 0 0 ↔ v = .slice none 0 0 ∧ ds = []) := by
    obtain ⟨p, cap, hu, hle, ⟨hp, hcap⟩ | ⟨b, off, C, fz, hp, hb, hs, hc⟩⟩ := hr
    · have h0 : ds = [] := List.eq_nil_of_length_eq_zero (by omega)
      subst h0 hp hu
      refine ⟨v, w, run_append_from_nil hu1 hi hown _ _ rfl, by simpa using hown, grownBy_refl _ _, by simp⟩
    · subst hp hu
      obtain ⟨v', w', h2, h3, h4, h5⟩ := run_append_own (P := P) w base t ty et inf ti.zero 1 ti.bytes hu1 hi hzero (hsize.trans hsz) hby hz (by decide) v cs.length cs hown ⟨b, off, none⟩ ds.length cap ds (by simp)
        (fun j c hj => by
          have := hc j (List.getElem?_eq_some_iff.1 hj).1
          rw [hj] at this
          rw [addr_add]
          simp [World.cell?, hb, this]) h1 (by unfold maxLen; omega) (by omega) hbase
      refine ⟨v', w', h2, by unfold Own; rw [List.length_append]; exact h3, h4, ?_⟩
      rw [h5]
      simp
  obtain ⟨v', w', h2, h3, h4, h5⟩ := key
  have hrun : (execOp a.eval ⟨d, .call ⟨.builtin .append, #[s, x], #[t, t]⟩, ty, pos, af, g⟩).run P w = .ok (.value v') w' := by
    generalize a.eval = ρ at e1 e2
    simp only [execOp, resolve, invoke, builtin, Sem.run_bind, Sem.run_pure, Result.andThen_ok, List.map_toArray, List.map_cons, List.map_nil, e1, e2, h2]
  unfold Oper.wp
  rw [hrun, Oper.upon_value]
  exact hK v' w' ⟨h3, h4, h5⟩

/-- []T{x}: a new block of one cell. -/
theorem OpR.single (hT : TblOk P T) {d : Option Tmp} {t : TypeId} {x : Operand} {ty : TypeId} {pos : String} {af : Array Edge} {g : Option (Nat × Bool)} {et : TypeId} {s1 s2 : Nat} {z : Value} {ti : TI} {k : IntKind} {m : Int}
    (ht : lookT T t = some ⟨.slice et, s1, s2, z⟩) (hte : lookT T et = some ti) (hsz : ti.size = 1) (hx : ov E x = some (.int k m)) :
    OpR P n ⟨d, .buildSlice t 1 #[(0, x)], ty, pos, af, g⟩ E w (fun u w' => u = .slice (some ⟨w.heap.size, 0, none⟩) 1 1 ∧ Blk et w' w.heap.size [.int k m] ∧ Ext w w' ∧ w'.heap.size = w.heap.size + 1) := by
  intro a ha Q K hK
  obtain ⟨_, inf, hi, hsize, hby, hzero⟩ := hT et ti hte
  have e1 := ha.eval hx
  have hrun : (execOp a.eval ⟨d, .buildSlice t 1 #[(0, x)], ty, pos, af, g⟩).run P w = .ok (.value (.slice (some ⟨w.heap.size, 0, none⟩) 1 1)) (w.alloc (.cells #[.int k m] et (0, 0))) := by
    generalize a.eval = ρ at e1
    simp [execOp, Instr.buildSlice, e1, run_underlying_T hT ht, run_sizeOf_T hT hte, hsz, zeroValue, run_typeInfo hi, hzero, Instr.fill, newRow, go_sem]
  unfold Oper.wp
  rw [hrun, Oper.upon_value]
  exact hK _ _ ⟨rfl, blk_alloc _ _ _, ext_alloc _ _, size_alloc1 _ _⟩

end

theorem Blk.row {e : TypeId} {w : World} {b off len cap : Nat} {C cs : List Value} (h : Blk e w b C) (hlen : len = cs.length) (hl : len ≤ cap) (hc : off + cap ≤ C.length) (hcs : (C.drop off).take len = cs) : Row e w (.slice (some ⟨b, off, none⟩) len cap) cs := by
  subst hlen
  refine ⟨_, cap, rfl, hl, .inr ⟨b, off, C.toArray, (0, 0), rfl, h, by simpa using hc, fun i hi => ?_⟩⟩
  have : cs[i]? = ((C.drop off).take cs.length)[i]? := by rw [hcs]
  rw [this, List.getElem?_take_of_lt hi]
  simp

theorem Blk.own {e : TypeId} {w : World} {b len base : Nat} {C : List Value} (h : Blk e w b C) (hl : len = C.length) (hb : base ≤ b) (hm : len ≤ 1000000000000) : Own base e w (.slice (some ⟨b, 0, none⟩) len len) C := by
  subst hl
  exact ⟨by simp, .inr ⟨b, C.length, C.toArray, rfl, hb, h, Nat.le_refl _, by unfold maxLen; omega, by simp, by simp⟩⟩

theorem Own.nil (base : Nat) (e : TypeId) (w : World) : Own base e w (.slice none 0 0) [] := World.ownsRow_nil w base e 1

section lists
variable {P : Program} {T : List (Nat × TI)} {n : Nat} {E : List (Nat × Value)} {w : World} {Q : Exit → Act → World → Prop} {ops : Array Oper} {rest : List Oper}

/-- 'x[i]' read: two operations. -/
theorem StL.elem (hT : TblOk P T) {d1 d2 : Nat} {t u : TypeId} {x i : Operand} {ty ty2 : TypeId} {pos pos2 : String} {af af2 : Array Edge} {g g2 : Option (Nat × Bool)} {et : TypeId} {s1 s2 : Nat} {z : Value} {ti : TI} {sv : Value} {cs : List Value} {k : IntKind} {iv : Int} (j : Nat) (c : Value)
    (hr : Row et w sv cs) (hc : cs[j]? = some c) (hj : iv = j)
    (ht : lookT T t = some ⟨.slice et, s1, s2, z⟩) (hte : lookT T et = some ti) (hsz : ti.size = 1) (hag : isAggD ti.desc = false) (hu : u = et)
    (hx : ov E x = some sv) (hi : ov E i = some (.int k iv)) (hg : wantE ops E g = some true) (hn : Nat.blt d1 n = true) (hn2 : Nat.blt d2 n = true) (hg2 : ∀ p, wantE ops ((d1, p) :: E) g2 = some true)
    (next : ∀ p, StL P n ((d2, c) :: (d1, p) :: E) w ops rest Q) :
    StL P n E w ops (⟨some d1, .indexAddr t x i, ty, pos, af, g⟩ :: ⟨some d2, .load u (.tmp d1), ty2, pos2, af2, g2⟩ :: rest) Q := by
  obtain ⟨a, cap, hsv, hcell⟩ := hr.get hc
  have hlt : j < cs.length := (List.getElem?_eq_some_iff.1 hc).1
  subst hu
  rw [hsv] at hx
  refine StL.step rfl hg hn (RunsTo.indexAddr hT ht hte hsz hx hi (by omega) (by omega)).op ?_
  rintro p w' ⟨rfl, rfl⟩
  rw [show iv.toNat = j from by omega]
  have hl : ov ((d1, .pointer (some (a.add j))) :: E) (.tmp d1) = some (.pointer (some (a.add j))) := look_cons_self _ _ _
  refine StL.step rfl (hg2 _) hn2 (RunsTo.load hT hte hag hl hcell).op ?_
  rintro c' w' ⟨rfl, rfl⟩
  exact next _

/-- 'x[i] = v': two operations; the block that the slice lies in is known whole. -/
theorem StL.put (hT : TblOk P T) {d1 : Nat} {t u : TypeId} {x i y : Operand} {ty ty2 : TypeId} {pos pos2 : String} {af af2 : Array Edge} {g g2 : Option (Nat × Bool)} {et : TypeId} {s1 s2 : Nat} {z : Value} {ti : TI} {b off len cap : Nat} {C : List Value} {k : IntKind} {iv : Int} {v : Value} (j : Nat)
    (hb : Blk et w b C) (hj : iv = j) (hlt : j < len) (hC : off + len ≤ C.length)
    (ht : lookT T t = some ⟨.slice et, s1, s2, z⟩) (hte : lookT T et = some ti) (hsz : ti.size = 1) (hu : u = et)
    (hx : ov E x = some (.slice (some ⟨b, off, none⟩) len cap)) (hi : ov E i = some (.int k iv)) (hg : wantE ops E g = some true) (hn : Nat.blt d1 n = true) (hg2 : ∀ p, wantE ops ((d1, p) :: E) g2 = some true)
    (hy : ∀ p, ov ((d1, p) :: E) y = some v) (hv : v.cells = #[v]) (hv1 : v.oneCell' = true)
    (next : ∀ p w', Blk et w' b (C.set (off + j) v) → Upd b w w' → StL P n ((d1, p) :: E) w' ops rest Q) :
    StL P n E w ops (⟨some d1, .indexAddr t x i, ty, pos, af, g⟩ :: ⟨none, .store u (.tmp d1) y, ty2, pos2, af2, g2⟩ :: rest) Q := by
  subst hu
  refine StL.step rfl hg hn (RunsTo.indexAddr hT ht hte hsz hx hi (by omega) (by omega)).op ?_
  rintro p w' ⟨rfl, rfl⟩
  rw [show iv.toNat = j from by omega, addr_add]
  have hl : ov ((d1, .pointer (some ⟨b, off + j, none⟩)) :: E) (.tmp d1) = some (.pointer (some ⟨b, off + j, none⟩)) := look_cons_self _ _ _
  refine StL.step0 rfl (hg2 _) (OpR.store hT (vs := [v]) hte hl (hy _) (by rw [hv]) (by simp [hsz]) hb (by simp; omega) (by simpa using hv1)) ?_
  rintro _ w' ⟨h1, h2⟩
  exact next _ w' h1 h2

end lists

section cut
variable {P : Program} {n : Nat} {E : List (Nat × Value)} {w : World} {Q : Exit → Act → World → Prop}

/-- What stands where two ways meet. -/
def Met {α : Type} (n : Nat) (Em : α → List (Nat × Value)) (I : α → World → Prop) (a : Act) (w : World) : Prop := ∃ g, Fits n (Em g) a ∧ I g w

theorem St.cut {α : Type} (Em : α → List (Nat × Value)) (I : α → World → Prop) {x y : Code} (hx : St P n E w x (Exit.then (Met n Em I) Q)) (hy : ∀ g w, I g w → St P n (Em g) w y Q) : St P n E w (.seq x y) Q := by
  intro a ha
  refine wp_seq (wp_mono (hx a ha) ?_)
  intro e a2 w2 hq
  cases e with
  | normal =>
    obtain ⟨g, hf, hI⟩ := hq
    exact hy g w2 hI a2 hf
  | exit id => exact hq
  | goto l => exact hq
  | ret => exact hq
  | panic ch => exact hq
  | outgrown => exact hq

theorem Out.met {α : Type} {Em : α → List (Nat × Value)} {I : α → World → Prop} (g : α) (hs : Sub (Em g) E) (hI : I g w) : Out n E w .normal (Exit.then (Met n Em I) Q) := fun _ ha => ⟨g, ha.sub hs, hI⟩
end cut
end Go.Qf
