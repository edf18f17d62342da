/- Stores, new blocks, calls, appends. -/
import Derived.Test.YtianfagdgdpnpaaMem
namespace Go.Qf
open Go Go.RowKit

theorem Blk.set {e : TypeId} {w : World} {b : Nat} {C : List Value} (h : Blk e w b C) (i : Nat) (v : Value) : Blk e (w.setCell ⟨b, i, none⟩ v) b (C.set i v) := by
  unfold Blk at *
  simp [World.setCell, Array.getElem?_modify, h]

theorem upd_setCell (w : World) (b i : Nat) (s : Option Nat) (v : Value) : Upd b w (w.setCell ⟨b, i, s⟩ v) :=
  ⟨rfl, rfl, rfl, by simp [World.setCell], fun k _ hb => by
    simp only [World.setCell, Array.getElem?_modify]
    rw [if_neg (fun e => hb e.symm)]⟩

section
variable {P : Program} {T : List (Nat × TI)} {n : Nat} {E : List (Nat × Value)} {w : World}

theorem run_store1 {e : TypeId} {b i : Nat} {C : List Value} (h : Blk e w b C) (hi : i < C.length) {v : Value} (hv : v.oneCell' = true) : (Go.store ⟨b, i, none⟩ v).run P w = .ok () (w.setCell ⟨b, i, none⟩ v) := by
  have hc : w.cell? ⟨b, i, none⟩ = some C[i] := h.cell (by simp [hi])
  have hf := h.frozen i none
  unfold Go.store
  cases v <;> simp [Value.oneCell'] at hv <;> simp [Sem.run, hc, hf]

/-- Cells from position k on, written over. -/
def over (C : List Value) (k : Nat) : List Value → List Value
  | [] => C
  | v :: r => over (C.set k v) (k + 1) r

theorem over_length (vs : List Value) : ∀ (C : List Value) (k : Nat), (over C k vs).length = C.length := by
  induction vs with
  | nil => intro C k; rfl
  | cons v r ih => intro C k; simp [over, ih]

theorem run_storeCells {e : TypeId} {b off : Nat} : ∀ (vs : List Value) (w : World) (C : List Value) (i : Nat), Blk e w b C → off + i + vs.length ≤ C.length → (∀ u ∈ vs, u.oneCell' = true) →
    ∃ w', (storeCells ⟨b, off, none⟩ vs i).run P w = .ok () w' ∧ Blk e w' b (over C (off + i) vs) ∧ Upd b w w' := by
  intro vs
  induction vs with
  | nil => intro w C i h _ _; exact ⟨w, by simp [storeCells, go_sem], h, Upd.refl _ _⟩
  | cons v r ih =>
    intro w C i h hle h1
    have ha : Addr.add ⟨b, off, none⟩ i = ⟨b, off + i, none⟩ := by
      unfold Addr.add
      split
      · rename_i h0; subst h0; rfl
      · rfl
    have hs := run_store1 (P := P) h (i := off + i) (by simp at hle; omega) (h1 v (by simp))
    obtain ⟨w', hr, hb, hu⟩ := ih (w.setCell ⟨b, off + i, none⟩ v) (C.set (off + i) v) (i + 1) (h.set _ _) (by simp at hle ⊢; omega) (fun u hu => h1 u (by simp [hu]))
    refine ⟨w', ?_, ?_, (upd_setCell _ _ _ _ _).trans hu⟩
    · simp only [storeCells, Sem.run_bind, ha, hs, Result.andThen_ok]
      exact hr
    · simpa [over, Nat.add_assoc] using hb

theorem OpR.store (hT : TblOk P T) {d : Option Tmp} {t : TypeId} {x y : Operand} {ty : TypeId} {pos : String} {af : Array Edge} {g : Option (Nat × Bool)} {ti : TI} {e : TypeId} {b off : Nat} {C vs : List Value} {v : Value}
    (ht : lookT T t = some ti) (hx : ov E x = some (.pointer (some ⟨b, off, none⟩))) (hy : ov E y = some v) (hcs : v.cells.toList = vs) (hsz : vs.length = ti.size) (hb : Blk e w b C) (hle : off + vs.length ≤ C.length) (h1 : ∀ u ∈ vs, u.oneCell' = true) :
    OpR P n ⟨d, .store t x y, ty, pos, af, g⟩ E w (fun _ w' => Blk e w' b (over C off vs) ∧ Upd b w w') := by
  intro a ha Q K hK
  obtain ⟨w', hr, hb', hu⟩ := run_storeCells (P := P) vs w C 0 hb (by simpa using hle) h1
  have e1 := ha.eval hx
  have e2 := ha.eval hy
  have hne : ¬ (v.cells.size ≠ ti.size) := by rw [← hsz, ← hcs]; simp
  have hrun : (execOp a.eval ⟨d, .store t x y, ty, pos, af, g⟩).run P w = .ok .skip w' := by
    generalize a.eval = ρ at e1 e2
    simp only [execOp, e1, e2, Instr.storeAt, Instr.sureAddr, storeVar, Sem.run_bind, run_sizeOf_T hT ht, Result.andThen_ok, Sem.run_pure, if_neg hne, hcs, hr]
  unfold Oper.wp
  rw [hrun, Oper.upon_skip]
  exact hK undef w' ⟨by simpa using hb', hu⟩

theorem blk_alloc (w : World) (e : TypeId) (C : Array Value) : Blk e (w.alloc (.cells C e (0, 0))) w.heap.size C.toList := by
  show (w.heap.push _)[w.heap.size]? = _
  simp

theorem size_alloc1 (w : World) (o : Obj) : (w.alloc o).heap.size = w.heap.size + 1 := by
  show (w.heap.push o).size = _
  simp

theorem ext_alloc (w : World) (o : Obj) : Ext w (w.alloc o) := (Below.refl _ _).alloc (Nat.le_refl _) o

theorem OpR.alloc (hT : TblOk P T) {d : Option Tmp} {t : TypeId} {ty : TypeId} {pos : String} {af : Array Edge} {g : Option (Nat × Bool)} {ti : TI} (ht : lookT T t = some ti) :
    OpR P n ⟨d, .alloc t, ty, pos, af, g⟩ E w (fun v w' => v = .pointer (some ⟨w.heap.size, 0, none⟩) ∧ Blk t w' w.heap.size ti.zero.cells.toList ∧ Ext w w' ∧ w'.heap.size = w.heap.size + 1) := by
  intro a ha Q K hK
  obtain ⟨_, inf, hi, _, _, hz⟩ := hT t ti ht
  have hrun : (execOp a.eval ⟨d, .alloc t, ty, pos, af, g⟩).run P w = .ok (.value (.pointer (some ⟨w.heap.size, 0, none⟩))) (w.alloc (.cells ti.zero.cells t (0, 0))) := by
    simp [execOp, Instr.alloc, zeroValue, typeInfo, hi, hz, newVar, newRow, go_sem]
  unfold Oper.wp
  rw [hrun, Oper.upon_value]
  exact hK _ _ ⟨rfl, blk_alloc _ _ _, ext_alloc _ _, size_alloc1 _ _⟩

theorem OpR.box {d : Option Tmp} {t : TypeId} {x : Operand} {ty : TypeId} {pos : String} {af : Array Edge} {g : Option (Nat × Bool)} {v : Value} (hx : ov E x = some v) :
    OpR P n ⟨d, .box t x, ty, pos, af, g⟩ E w (fun u w' => u = .pointer (some ⟨w.heap.size, 0, none⟩) ∧ Blk t w' w.heap.size v.cells.toList ∧ Ext w w' ∧ w'.heap.size = w.heap.size + 1) := by
  intro a ha Q K hK
  have e1 := ha.eval hx
  have hrun : (execOp a.eval ⟨d, .box t x, ty, pos, af, g⟩).run P w = .ok (.value (.pointer (some ⟨w.heap.size, 0, none⟩))) (w.alloc (.cells v.cells t (0, 0))) := by
    generalize a.eval = ρ at e1
    simp [execOp, Instr.box, e1, newVar, newRow, go_sem]
  unfold Oper.wp
  rw [hrun, Oper.upon_value]
  exact hK _ _ ⟨rfl, blk_alloc _ _ _, ext_alloc _ _, size_alloc1 _ _⟩

/-- A slice of the call's own: nil, or at the head of a block from base on. -/
abbrev Own (base : Nat) (e : TypeId) (w : World) (v : Value) (cs : List Value) : Prop := w.ownsRow base e 1 v cs.length cs

theorem Own.row {base : Nat} {e : TypeId} {v : Value} {cs : List Value} (h : Own base e w v cs) : Row e w v cs := by
  rcases h.2 with ⟨hv, h0⟩ | ⟨g, cap, cur, hv, _, hg, hn, _, hs, ht⟩
  · exact ⟨none, 0, by rw [hv, h0], by omega, .inl ⟨rfl, rfl⟩⟩
  · refine ⟨_, cap, hv, hn, .inr ⟨g, 0, cur, (0, 0), rfl, hg, by omega, fun i hi => ?_⟩⟩
    rw [← ht]
    simp only [Nat.mul_one, Nat.zero_add]
    rw [List.getElem?_take_of_lt hi]
    simp

theorem Own.ext {base : Nat} {e : TypeId} {w' : World} {v : Value} {cs : List Value} (h : Own base e w v cs) (hx : Ext w w') : Own base e w' v cs := by
  refine ⟨h.1, ?_⟩
  rcases h.2 with h0 | ⟨g, cap, cur, hv, hb, hg, r⟩
  · exact .inl h0
  · exact .inr ⟨g, cap, cur, hv, hb, (hx.block g (Array.getElem?_eq_some_iff.1 hg).1).trans hg, r⟩

theorem run_typeInfo {t : TypeId} {inf : TypeInfo} (hi : P.info? t = some inf) : (typeInfo t).run P w = .ok inf w := by
  simp [typeInfo, hi, go_sem]

/-- make([]T, m): a new block of m zeros. -/
theorem OpR.make (hT : TblOk P T) {d : Option Tmp} {t : TypeId} {x y : Operand} {ty : TypeId} {pos : String} {af : Array Edge} {g : Option (Nat × Bool)} {et : TypeId} {s1 s2 : Nat} {z : Value} {ti : TI} {k k' : IntKind} {iv jv : Int} (m : Nat)
    (ht : lookT T t = some ⟨.slice et, s1, s2, z⟩) (hte : lookT T et = some ti) (hsz : ti.size = 1) (hz : ti.zero.cells = #[ti.zero]) (hx : ov E x = some (.int k iv)) (hiv : iv = m) (hy : ov E y = some (.int k' jv)) (hjv : jv = m) (hm : m * ti.bytes ≤ 1000000000000) (hm2 : m ≤ 1000000000000) :
    OpR P n ⟨d, .makeSlice t x y, ty, pos, af, g⟩ E w (fun v w' => v = .slice (some ⟨w.heap.size, 0, none⟩) m m ∧ Blk et w' w.heap.size (List.replicate m ti.zero) ∧ Ext w w' ∧ w'.heap.size = w.heap.size + 1) := by
  intro a ha Q K hK
  subst hiv hjv
  obtain ⟨_, inf, hi, hsize, hby, hzero⟩ := hT et ti hte
  have e1 := ha.eval hx
  have e2 := ha.eval hy
  have hw : IntKind.i64.wrap (m : Int) = m := i64_id (by omega) (by omega)
  have hc1 : ¬ ((decide (((m : Nat) : Int) < 0) || decide (((ti.bytes : Nat) : Int) * ((m : Nat) : Int) > 2 ^ 48) || decide (((m : Nat) : Int) < 0) || decide (((m : Nat) : Int) > ((m : Nat) : Int))) = true) := by
    have : ((ti.bytes : Nat) : Int) * ((m : Nat) : Int) = ((m * ti.bytes : Nat) : Int) := by rw [Int.mul_comm]; simp
    simp only [Bool.or_eq_true, decide_eq_true_eq, this]
    omega
  have hroom : ¬ (m * ti.bytes > roomBytes) := by unfold roomBytes; omega
  have hcells : ((Array.range (m * 1)).map (fun x => (#[ti.zero] : Array Value)[x % 1]!)) = (List.replicate m ti.zero).toArray := by
    apply Array.ext
    · simp
    · intro i h1 h2
      simp [Nat.mod_one]
  have hrun : (execOp a.eval ⟨d, .makeSlice t x y, ty, pos, af, g⟩).run P w = .ok (.value (.slice (some ⟨w.heap.size, 0, none⟩) m m)) (w.alloc (.cells (List.replicate m ti.zero).toArray et (0, 0))) := by
    generalize a.eval = ρ at e1 e2
    have hmk : (Instr.makeSlice t (.int k m) (.int k' m)).run P w = .ok (.slice (some ⟨w.heap.size, 0, none⟩) m m) (w.alloc (.cells (List.replicate m ti.zero).toArray et (0, 0))) := by
      unfold Instr.makeSlice
      simp only [Sem.run_bind, run_underlying_T hT ht, Result.andThen_ok, asInt, asIntOf, Sem.run_pure, run_typeInfo hi, hby, hw]
      rw [if_neg hc1]
      simp only [Sem.run_bind, Sem.run_pure, Result.andThen_ok, Int.toNat_natCast, askRoom, if_neg hroom, run_sizeOf_T hT hte, hsz]
      by_cases h0 : m = 0
      · subst h0
        simp [newRow, go_sem]
      · rw [if_neg (by omega)]
        simp only [Sem.run_bind, zeroValue, run_typeInfo hi, Sem.run_pure, Result.andThen_ok, hzero, hz, List.size_toArray, List.length_cons, List.length_nil, Nat.zero_add, hcells]
        simp [newRow, go_sem]
    simp only [execOp, e1, e2, Sem.run_bind, hmk, Result.andThen_ok, Sem.run_pure]
  unfold Oper.wp
  rw [hrun, Oper.upon_value]
  refine hK _ _ ⟨rfl, ?_, ext_alloc _ _, size_alloc1 _ _⟩
  have := blk_alloc w et (List.replicate m ti.zero).toArray
  simpa using this

end
end Go.Qf
