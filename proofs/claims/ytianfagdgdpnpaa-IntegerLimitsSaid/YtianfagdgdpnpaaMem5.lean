/- Struct literals, results that lie in memory, shifts by a variable, division, literals of slices, a slice held against nil. -/
import Derived.Test.YtianfagdgdpnpaaQuiet
namespace Go.Qf
open Go Go.RowKit

def placesT (T : List (Nat × TI)) : List Field → Option (List (Nat × Nat))
  | [] => some []
  | f :: r => match lookT T f.type, placesT T r with
    | some ti, some ps => some ((f.offset, ti.size) :: ps)
    | _, _ => none

def ovp (E : List (Nat × Value)) : List (Nat × Operand) → Option (List (Nat × Value))
  | [] => some []
  | (i, x) :: r => match ov E x, ovp E r with
    | some v, some vs => some ((i, v) :: vs)
    | _, _ => none

section
variable {P : Program} {T : List (Nat × TI)} {n : Nat} {E : List (Nat × Value)} {w : World}

theorem ovp_map {a : Act} (ha : Fits n E a) : ∀ (xs : List (Nat × Operand)) (vs : List (Nat × Value)), ovp E xs = some vs → xs.map (fun (i, x) => (i, a.eval x)) = vs := by
  intro xs
  induction xs with
  | nil => intro vs h; simp only [ovp, Option.some.injEq] at h; subst h; rfl
  | cons p r ih =>
    obtain ⟨i, x⟩ := p
    intro vs h
    simp only [ovp] at h
    split at h
    · rename_i v us hv hr
      simp only [Option.some.injEq] at h
      subst h
      simp only [List.map_cons, ha.eval hv, ih us hr]
    · cases h

theorem run_placesT (hT : TblOk P T) : ∀ (fs : List Field) (ps : List (Nat × Nat)), placesT T fs = some ps → (fs.mapM fun f => do Pure.pure (f.offset, ← sizeOf f.type) : Sem (List (Nat × Nat))).run P w = .ok ps w := by
  intro fs
  induction fs with
  | nil => intro ps h; simp only [placesT, Option.some.injEq] at h; subst h; simp [go_sem]
  | cons f r ih =>
    intro ps h
    simp only [placesT] at h
    split at h
    · rename_i ti qs hti hr
      simp only [Option.some.injEq] at h
      subst h
      have h1 := ih qs hr
      simp only [List.mapM_cons, Sem.run_bind, run_sizeOf_T hT hti, Result.andThen_ok, Sem.run_pure, h1]
    · cases h

theorem RunsTo.build (hT : TblOk P T) {d : Option Tmp} {t : TypeId} {parts : Array (Nat × Operand)} {ty : TypeId} {pos : String} {af : Array Edge} {g : Option (Nat × Bool)} {fs : Array Field} {s1 s2 : Nat} {z : Value} {pl : List (Nat × Nat)} {ps : List (Nat × Value)} {cells : Array Value}
    (ht : lookT T t = some ⟨.struct fs, s1, s2, z⟩) (hpl : placesT T fs.toList = some pl) (hps : ovp E parts.toList = some ps) (hf : Instr.fill (fun i => pl.toArray[i]?) z.cells ps = some cells) :
    RunsTo P n ⟨d, .build t parts, ty, pos, af, g⟩ E w (.agg cells) := by
  intro a ha
  obtain ⟨hu, inf, hi, _, _, hz⟩ := hT t _ ht
  have hm := ovp_map ha _ _ hps
  have hm2 : (parts.map fun (i, x) => (i, a.eval x)).toList = ps := by rw [← hm]; simp
  have h2 : (fs.mapM fun f => do Pure.pure (f.offset, ← sizeOf f.type) : Sem (Array (Nat × Nat))).run P w = .ok pl.toArray w := by
    rw [Array.mapM_eq_mapM_toList]
    have := run_placesT (P := P) (w := w) hT _ _ hpl
    show ((_ : Sem (List (Nat × Nat))) >>= fun x => Pure.pure (List.toArray x)).run P w = _
    simp only [Sem.run_bind, this, Result.andThen_ok, Sem.run_pure]
  generalize a.eval = ρ at hm2
  simp only [execOp, Instr.build, zeroValue, Sem.run_bind, run_typeInfo hi, Result.andThen_ok, hz, Sem.run_pure, run_underlying_T hT ht, h2, hm2, hf]

def resV (T : List (Nat × TI)) (E : List (Nat × Value)) (w : World) : ResultVar → Value → Prop
  | .tmp t, v => look E t = some v
  | .cell a t, v => ∃ b C e ti, look E a = some (.pointer (some ⟨b, 0, none⟩)) ∧ Blk e w b C ∧ lookT T t = some ti ∧ isAggD ti.desc = true ∧ C.length = ti.size ∧ v = .agg C.toArray

def ResOk (T : List (Nat × TI)) (E : List (Nat × Value)) (w : World) : List ResultVar → List Value → Prop
  | [], [] => True
  | r :: rs, v :: vs => resV T E w r v ∧ ResOk T E w rs vs
  | _, _ => False

def oneOf : List Value → Value
  | [v] => v
  | vs => .tuple vs.toArray

def resFn (tmps : Array Value) : ResultVar → Sem Value
  | .tmp t => Pure.pure (tmps.getD t undef)
  | .cell a t => do loadVar t (← asAddr (tmps.getD a undef))

theorem results_eq (fn : Func) (tmps : Array Value) : results fn tmps = (do let vs ← fn.results.mapM (resFn tmps); Pure.pure (if h : vs.size = 1 then vs[0] else .tuple vs)) := by
  unfold results
  have : (fun x => match x with | .tmp t => Pure.pure (tmps.getD t undef) | .cell a t => do loadVar t (← asAddr (tmps.getD a undef)) : ResultVar → Sem Value) = resFn tmps := by
    funext x; cases x <;> rfl
  exact congrArg (fun f => (do let vs ← fn.results.mapM f; Pure.pure (if h : vs.size = 1 then vs[0] else .tuple vs) : Sem Value)) this

theorem run_res (hT : TblOk P T) {a : Act} (ha : Fits n E a) : ∀ (rs : List ResultVar) (vs : List Value), ResOk T E w rs vs →
    (rs.mapM (resFn a.tmps)).run P w = .ok vs w := by
  intro rs
  induction rs with
  | nil =>
    intro vs h
    cases vs with
    | nil => simp [go_sem]
    | cons _ _ => exact h.elim
  | cons r rs ih =>
    intro vs h
    cases vs with
    | nil => exact h.elim
    | cons v vs =>
      obtain ⟨h1, h2⟩ := h
      have h3 := ih vs h2
      cases r with
      | tmp t =>
        have : a.tmps.getD t undef = v := by simp [Array.getD_eq_getD_getElem?, ha.slots t v h1]
        simp only [List.mapM_cons, resFn, Sem.run_bind, Sem.run_pure, Result.andThen_ok, this, h3]
      | cell x t =>
        obtain ⟨b, C, e, ti, hl, hb, hti, hag, hlen, rfl⟩ := h1
        have : a.tmps.getD x undef = .pointer (some ⟨b, 0, none⟩) := by simp [Array.getD_eq_getD_getElem?, ha.slots x _ hl]
        have hr := run_loadCellsFrom (P := P) hb 0 ti.size 0 #[] (by omega)
        have hld : (loadVar t ⟨b, 0, none⟩).run P w = .ok (.agg C.toArray) w := by
          unfold loadVar
          simp only [Sem.run_bind, run_isAgg_T hT hti, hag, Result.andThen_ok, if_true, run_sizeOf_T hT hti, loadCells, hr, Sem.run_pure]
          congr 2
          simp [← hlen]
        have hasA : (asAddr (.pointer (some ⟨b, 0, none⟩))).run P w = .ok ⟨b, 0, none⟩ w := by simp [asAddr, go_sem]
        simp only [List.mapM_cons, resFn, Sem.run_bind, this, hasA, Sem.run_pure, Result.andThen_ok, hld, h3]

theorem Out.rets (hT : TblOk P T) {fn : Func} {Φ : Value → World → Prop} {rs : List ResultVar} (vs : List Value) (hr : fn.results = rs.toArray) (h : ResOk T E w rs vs) (hΦ : Φ (oneOf vs) w) : Out n E w .ret (bodyPost P fn (Ret Φ)) := by
  intro a ha
  refine bodyPost_ret (v := oneOf vs) ?_ ha.defers ⟨_, rfl, hΦ⟩
  rw [results_eq, hr, Array.mapM_eq_mapM_toList]
  have := run_res (P := P) (w := w) hT ha rs vs h
  show (((rs.mapM (resFn a.tmps) : Sem (List Value)) >>= fun x => Pure.pure (List.toArray x)) >>= _).run P w = _
  simp only [Sem.run_bind, this, Result.andThen_ok, Sem.run_pure]
  congr 1
  match vs with
  | [] => rfl
  | [v] => rfl
  | v :: u :: r =>
    simp [oneOf]

theorem RunsTo.shl {d : Option Tmp} {t t2 : TypeId} {x y : Operand} {ty : TypeId} {pos : String} {af : Array Edge} {g : Option (Nat × Bool)} {k k' : IntKind} {m s : Int} (j : Nat) (hx : ov E x = some (.int k m)) (hy : ov E y = some (.int k' s)) (hs : s = j) (hj : j ≤ k.bits) :
    RunsTo P n ⟨d, .binOp .shl t x y t2, ty, pos, af, g⟩ E w (.int k (k.wrap (m * 2 ^ j))) := by
  intro a ha
  have e1 := ha.eval hx
  have e2 := ha.eval hy
  generalize a.eval = ρ at e1 e2
  subst hs
  have en : ¬ ((j : Int) < 0) := by omega
  have hsh : Op.shift .shl k m k' (j : Int) = Pure.pure (.int k (k.wrap (m * 2 ^ j))) := by
    unfold Op.shift; rw [if_neg en]; simp only [Int.toNat_natCast, Nat.min_eq_left hj]
  simp only [execOp, e1, e2, eqGuard, binOp, hsh]
  simp [go_sem]

theorem RunsTo.shr {d : Option Tmp} {t t2 : TypeId} {x y : Operand} {ty : TypeId} {pos : String} {af : Array Edge} {g : Option (Nat × Bool)} {k k' : IntKind} {m s : Int} (j : Nat) (hx : ov E x = some (.int k m)) (hy : ov E y = some (.int k' s)) (hs : s = j) (hj : j ≤ k.bits) :
    RunsTo P n ⟨d, .binOp .shr t x y t2, ty, pos, af, g⟩ E w (.int k (m / 2 ^ j)) := by
  intro a ha
  have e1 := ha.eval hx
  have e2 := ha.eval hy
  generalize a.eval = ρ at e1 e2
  subst hs
  have en : ¬ ((j : Int) < 0) := by omega
  have hp : (0 : Int) ≤ 2 ^ j := Int.le_of_lt (Int.pow_pos (by decide))
  have hsh : Op.shift .shr k m k' (j : Int) = Pure.pure (.int k (m / 2 ^ j)) := by
    unfold Op.shift; rw [if_neg en]; simp only [Int.toNat_natCast, Nat.min_eq_left hj, Int.fdiv_eq_ediv_of_nonneg _ hp]
  simp only [execOp, e1, e2, eqGuard, binOp, hsh]
  simp [go_sem]

theorem RunsTo.quo {d : Option Tmp} {t t2 : TypeId} {x y : Operand} {ty : TypeId} {pos : String} {af : Array Edge} {g : Option (Nat × Bool)} {k : IntKind} {m s : Int} (hx : ov E x = some (.int k m)) (hy : ov E y = some (.int k s)) (hm : 0 ≤ m) (hs : 0 < s) :
    RunsTo P n ⟨d, .binOp .quo t x y t2, ty, pos, af, g⟩ E w (.int k (k.wrap (m / s))) := by
  intro a ha
  have e1 := ha.eval hx
  have e2 := ha.eval hy
  generalize a.eval = ρ at e1 e2
  have hne : ¬ s = 0 := by omega
  have ht : m.tdiv s = m / s := Int.tdiv_eq_ediv_of_nonneg hm
  simp [execOp, e1, e2, eqGuard, binOp, Op.intDiv, hne, ht, go_sem]

theorem RunsTo.rem {d : Option Tmp} {t t2 : TypeId} {x y : Operand} {ty : TypeId} {pos : String} {af : Array Edge} {g : Option (Nat × Bool)} {k : IntKind} {m s : Int} (hx : ov E x = some (.int k m)) (hy : ov E y = some (.int k s)) (hm : 0 ≤ m) (hs : 0 < s) :
    RunsTo P n ⟨d, .binOp .rem t x y t2, ty, pos, af, g⟩ E w (.int k (m % s)) := by
  intro a ha
  have e1 := ha.eval hx
  have e2 := ha.eval hy
  generalize a.eval = ρ at e1 e2
  have hne : ¬ s = 0 := by omega
  have ht : m.tmod s = m % s := Int.tmod_eq_emod_of_nonneg hm
  simp [execOp, e1, e2, eqGuard, binOp, Op.intDiv, hne, ht, go_sem]

theorem RunsTo.sliceNil (hT : TblOk P T) {d : Option Tmp} {t t2 : TypeId} {x : Operand} {ty : TypeId} {pos : String} {af : Array Edge} {g : Option (Nat × Bool)} {et : TypeId} {s1 s2 : Nat} {z : Value} {p : Option Addr} {len cap : Nat} (ht : lookT T t = some ⟨.slice et, s1, s2, z⟩) (hx : ov E x = some (.slice p len cap)) :
    RunsTo P n ⟨d, .binOp .eql t x (.const (.slice none 0 0)) t2, ty, pos, af, g⟩ E w (.bool p.isNone) := by
  intro a ha
  have e1 := ha.eval hx
  have e2 : a.eval (.const (.slice none 0 0)) = .slice none 0 0 := rfl
  generalize a.eval = ρ at e1 e2
  have hu := (hT t _ ht).1
  have heq : (Op.equal t (.slice p len cap) (.slice none 0 0)).run P w = .ok p.isNone w := by
    show (Op.equalIn (9999 + 1) t _ _).run P w = _
    unfold Op.equalIn
    cases p with
    | none => simp only [Sem.run_bind, run_underlying_T hT ht, Result.andThen_ok, Sem.run_pure, Option.isNone_none]
    | some a0 => simp only [Sem.run_bind, run_underlying_T hT ht, Result.andThen_ok, Sem.run_pure, Option.isNone_some]
  simp only [execOp, e1, e2, eqGuard, binOp, Sem.run_bind, Sem.run_pure]
  simp only [Bool.not_true, Bool.false_eq_true, if_false, Sem.run_pure, Result.andThen_ok, heq]

/-- []T{x, y} -/
theorem OpR.pair (hT : TblOk P T) {d : Option Tmp} {t : TypeId} {x y : Operand} {ty : TypeId} {pos : String} {af : Array Edge} {g : Option (Nat × Bool)} {et : TypeId} {s1 s2 : Nat} {z : Value} {ti : TI} {k k' : IntKind} {m m' : Int}
    (ht : lookT T t = some ⟨.slice et, s1, s2, z⟩) (hte : lookT T et = some ti) (hsz : ti.size = 1) (hx : ov E x = some (.int k m)) (hy : ov E y = some (.int k' m')) :
    OpR P n ⟨d, .buildSlice t 2 #[(0, x), (1, y)], ty, pos, af, g⟩ E w (fun u w' => u = .slice (some ⟨w.heap.size, 0, none⟩) 2 2 ∧ Blk et w' w.heap.size [.int k m, .int k' m'] ∧ Ext w w' ∧ w'.heap.size = w.heap.size + 1) := by
  intro a ha Q K hK
  obtain ⟨_, inf, hi, hsize, hby, hzero⟩ := hT et ti hte
  have e1 := ha.eval hx
  have e2 := ha.eval hy
  have hrun : (execOp a.eval ⟨d, .buildSlice t 2 #[(0, x), (1, y)], ty, pos, af, g⟩).run P w = .ok (.value (.slice (some ⟨w.heap.size, 0, none⟩) 2 2)) (w.alloc (.cells #[.int k m, .int k' m'] et (0, 0))) := by
    generalize a.eval = ρ at e1 e2
    simp [execOp, Instr.buildSlice, e1, e2, run_underlying_T hT ht, run_sizeOf_T hT hte, hsz, zeroValue, run_typeInfo hi, hzero, Instr.fill, newRow, go_sem]
  unfold Oper.wp
  rw [hrun, Oper.upon_value]
  exact hK _ _ ⟨rfl, blk_alloc _ _ _, ext_alloc _ _, size_alloc1 _ _⟩

/-- []T{} -/
theorem OpR.empty (hT : TblOk P T) {d : Option Tmp} {t : TypeId} {ty : TypeId} {pos : String} {af : Array Edge} {g : Option (Nat × Bool)} {et : TypeId} {s1 s2 : Nat} {z : Value} {ti : TI}
    (ht : lookT T t = some ⟨.slice et, s1, s2, z⟩) (hte : lookT T et = some ti) :
    OpR P n ⟨d, .buildSlice t 0 #[], ty, pos, af, g⟩ E w (fun u w' => u = .slice (some ⟨w.heap.size, 0, none⟩) 0 0 ∧ Blk et w' w.heap.size [] ∧ Ext w w' ∧ w'.heap.size = w.heap.size + 1) := by
  intro a ha Q K hK
  have hrun : (execOp a.eval ⟨d, .buildSlice t 0 #[], ty, pos, af, g⟩).run P w = .ok (.value (.slice (some ⟨w.heap.size, 0, none⟩) 0 0)) (w.alloc (.cells #[] et (0, 0))) := by
    simp [execOp, Instr.buildSlice, run_underlying_T hT ht, run_sizeOf_T hT hte, Instr.fill, newRow, go_sem]
  unfold Oper.wp
  rw [hrun, Oper.upon_value]
  exact hK _ _ ⟨rfl, blk_alloc _ _ _, ext_alloc _ _, size_alloc1 _ _⟩

end
end Go.Qf
