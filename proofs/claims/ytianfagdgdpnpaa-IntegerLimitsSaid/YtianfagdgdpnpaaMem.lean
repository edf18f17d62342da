/- Memory: slices that read as a list, blocks that are known whole, and the operations on them. -/
import Derived.Test.YtianfagdgdpnpaaOps
namespace Go.Qf
open Go Go.RowKit

/-- Nothing that was there has changed. -/
abbrev Ext (w w' : World) : Prop := Below w.heap.size w w'

theorem Ext.refl (w : World) : Ext w w := Below.refl _ _
theorem Ext.trans {a b c : World} (h : Ext a b) (k : Ext b c) : Ext a c := Below.trans h (Below.mono k h.size)
theorem Ext.drewN {w w' : World} (h : Ext w w') (m : Nat) : Ext w (w'.drewN m) := ⟨h.os, h.tape, h.output, h.size, h.block⟩

/-- Block b holds the cells C, of the type e, none of them frozen. -/
def Blk (e : TypeId) (w : World) (b : Nat) (C : List Value) : Prop := w.heap[b]? = some (.cells C.toArray e (0, 0))

theorem Blk.lt {e : TypeId} {w : World} {b : Nat} {C : List Value} (h : Blk e w b C) : b < w.heap.size := (Array.getElem?_eq_some_iff.1 h).1
theorem Blk.ext {e : TypeId} {w w' : World} {b : Nat} {C : List Value} (h : Blk e w b C) (hx : Ext w w') : Blk e w' b C := (hx.block b h.lt).trans h
theorem Blk.drewN {e : TypeId} {w : World} {b : Nat} {C : List Value} (h : Blk e w b C) (m : Nat) : Blk e (w.drewN m) b C := h

theorem Blk.cell {e : TypeId} {w : World} {b : Nat} {C : List Value} (h : Blk e w b C) {i : Nat} {v : Value} (hi : C[i]? = some v) : w.cell? ⟨b, i, none⟩ = some v := by
  unfold Blk at h
  simp [World.cell?, h, hi]

theorem Blk.frozen {e : TypeId} {w : World} {b : Nat} {C : List Value} (h : Blk e w b C) (i : Nat) (s : Option Nat) : w.frozen? ⟨b, i, s⟩ = false := by
  unfold Blk at h
  simp [World.frozen?, h]

/-- Only block b may have changed. -/
structure Upd (b : Nat) (w w' : World) : Prop where
  os : w'.os = w.os
  tape : w'.tape = w.tape
  output : w'.output = w.output
  size : w.heap.size ≤ w'.heap.size
  block : ∀ k, k < w.heap.size → k ≠ b → w'.heap[k]? = w.heap[k]?

theorem Upd.refl (b : Nat) (w : World) : Upd b w w := ⟨rfl, rfl, rfl, Nat.le_refl _, fun _ _ _ => rfl⟩
theorem Upd.trans {b : Nat} {x y z : World} (h : Upd b x y) (k : Upd b y z) : Upd b x z :=
  ⟨k.os.trans h.os, k.tape.trans h.tape, k.output.trans h.output, Nat.le_trans h.size k.size, fun i hi hb => (k.block i (Nat.lt_of_lt_of_le hi h.size) hb).trans (h.block i hi hb)⟩
theorem Ext.upd {w w' : World} (h : Ext w w') (b : Nat) : Upd b w w' := ⟨h.os, h.tape, h.output, h.size, fun k hk _ => h.block k hk⟩
/-- A block that the call made itself has changed: nothing old has. -/
theorem Ext.then_upd {w w' w'' : World} (h : Ext w w') {b : Nat} (k : Upd b w' w'') (hb : w.heap.size ≤ b) : Ext w w'' :=
  ⟨k.os.trans h.os, k.tape.trans h.tape, k.output.trans h.output, Nat.le_trans h.size k.size, fun i hi => (k.block i (Nat.lt_of_lt_of_le hi h.size) (by omega)).trans (h.block i hi)⟩
theorem Blk.upd {e : TypeId} {w w' : World} {b c : Nat} {C : List Value} (h : Blk e w b C) (hx : Upd c w w') (hne : b ≠ c) : Blk e w' b C := (hx.block b h.lt hne).trans h

/-- The slice v reads as the cells cs (elements of one cell). -/
def Row (e : TypeId) (w : World) (v : Value) (cs : List Value) : Prop :=
  ∃ p cap, v = .slice p cs.length cap ∧ cs.length ≤ cap ∧
    ((p = none ∧ cap = 0) ∨ ∃ b off C fz, p = some ⟨b, off, none⟩ ∧ w.heap[b]? = some (.cells C e fz) ∧ off + cap ≤ C.size ∧ ∀ i, i < cs.length → C[off + i]? = cs[i]?)

theorem Row.ext {e : TypeId} {w w' : World} {v : Value} {cs : List Value} (h : Row e w v cs) (hx : Ext w w') : Row e w' v cs := by
  obtain ⟨p, cap, hv, hl, h | ⟨b, off, C, fz, hp, hb, hs, hc⟩⟩ := h
  · exact ⟨p, cap, hv, hl, .inl h⟩
  · exact ⟨p, cap, hv, hl, .inr ⟨b, off, C, fz, hp, (hx.block b (Array.getElem?_eq_some_iff.1 hb).1).trans hb, hs, hc⟩⟩

theorem Row.drewN {e : TypeId} {w : World} {v : Value} {cs : List Value} (h : Row e w v cs) (m : Nat) : Row e (w.drewN m) v cs := h

/-- The slice's block is not b. -/
def Apart (b : Nat) (v : Value) : Prop := ∀ c off s len cap, v = .slice (some ⟨c, off, s⟩) len cap → c ≠ b

theorem Row.upd {e : TypeId} {w w' : World} {v : Value} {cs : List Value} (h : Row e w v cs) {b : Nat} (hx : Upd b w w') (ha : Apart b v) : Row e w' v cs := by
  obtain ⟨p, cap, hv, hl, h | ⟨c, off, C, fz, hp, hb, hs, hc⟩⟩ := h
  · exact ⟨p, cap, hv, hl, .inl h⟩
  · subst hp
    exact ⟨_, cap, hv, hl, .inr ⟨c, off, C, fz, rfl, (hx.block c (Array.getElem?_eq_some_iff.1 hb).1 (ha c off none _ _ hv)).trans hb, hs, hc⟩⟩

/-- An element of the slice: where it lies. -/
theorem Row.get {e : TypeId} {w : World} {v : Value} {cs : List Value} (h : Row e w v cs) {i : Nat} {c : Value} (hi : cs[i]? = some c) :
    ∃ a cap, v = .slice (some a) cs.length cap ∧ w.cell? (a.add i) = some c := by
  have hlt : i < cs.length := (List.getElem?_eq_some_iff.1 hi).1
  obtain ⟨p, cap, hv, hl, ⟨_, h0⟩ | ⟨b, off, C, fz, hp, hb, hs, hc⟩⟩ := h
  · omega
  · subst hp
    refine ⟨_, cap, hv, ?_⟩
    have := hc i hlt
    rw [hi] at this
    by_cases h0 : i = 0
    · subst h0
      simpa [Addr.add, World.cell?, hb] using this
    · simpa [Addr.add, h0, World.cell?, hb] using this

theorem Row.len {e : TypeId} {w : World} {v : Value} {cs : List Value} (h : Row e w v cs) : ∃ p cap, v = .slice p cs.length cap := by
  obtain ⟨p, cap, hv, _⟩ := h
  exact ⟨p, cap, hv⟩

/-- The operation yields v and leaves the world alone. -/
def RunsTo (P : Program) (n : Nat) (o : Oper) (E : List (Nat × Value)) (w : World) (v : Value) : Prop :=
  ∀ a, Fits n E a → (execOp a.eval o).run P w = .ok (.value v) w

section
variable {P : Program} {T : List (Nat × TI)} {n : Nat} {E : List (Nat × Value)} {w : World}

theorem RunsTo.op {o : Oper} {v : Value} (h : RunsTo P n o E w v) : OpR P n o E w (fun v' w' => v = v' ∧ w = w') := by
  intro a ha Q K hK
  unfold Oper.wp
  rw [h a ha, Oper.upon_value]
  exact hK v w ⟨rfl, rfl⟩

theorem RunsTo.pure (hT : TblOk P T) {o : Oper} {v : Value} (h : pureOp T E o.op = some v) : RunsTo P n o E w v :=
  fun _ ha => pureOp_run hT (fun hx => ha.eval hx) h

theorem RunsTo.indexAddr (hT : TblOk P T) {d : Option Tmp} {t : TypeId} {x i : Operand} {ty : TypeId} {pos : String} {af : Array Edge} {g : Option (Nat × Bool)} {et : TypeId} {s1 s2 : Nat} {z : Value} {et1 : TI} {a : Addr} {len cap : Nat} {k : IntKind} {iv : Int}
    (ht : lookT T t = some ⟨.slice et, s1, s2, z⟩) (hte : lookT T et = some et1) (hsz : et1.size = 1) (hx : ov E x = some (.slice (some a) len cap)) (hi : ov E i = some (.int k iv)) (h0 : 0 ≤ iv) (h1 : iv < len) :
    RunsTo P n ⟨d, .indexAddr t x i, ty, pos, af, g⟩ E w (.pointer (some (a.add iv.toNat))) := by
  intro b hb
  have e1 := hb.eval hx
  have e2 := hb.eval hi
  generalize b.eval = ρ at e1 e2
  simp [execOp, Instr.indexAt, e1, e2, run_underlying_T hT ht, run_sizeOf_T hT hte, hsz, h0, h1, asIntOf, go_sem]

theorem run_load1 {a : Addr} {v : Value} (hc : w.cell? a = some v) : (Go.load a).run P w = .ok v w := by
  unfold Go.load
  simp only [Sem.run, hc]

theorem RunsTo.load (hT : TblOk P T) {d : Option Tmp} {t : TypeId} {x : Operand} {ty : TypeId} {pos : String} {af : Array Edge} {g : Option (Nat × Bool)} {ti : TI} {a : Addr} {v : Value}
    (ht : lookT T t = some ti) (hag : isAggD ti.desc = false) (hx : ov E x = some (.pointer (some a))) (hc : w.cell? a = some v) :
    RunsTo P n ⟨d, .load t x, ty, pos, af, g⟩ E w v := by
  intro b hb
  have e1 := hb.eval hx
  generalize b.eval = ρ at e1
  simp [execOp, Instr.loadAt, Instr.sureAddr, loadVar, e1, run_isAgg_T hT ht, hag, hc, go_sem]

/-- A whole struct out of its block. -/
theorem run_loadCellsFrom {e : TypeId} {b : Nat} {C : List Value} (h : Blk e w b C) (off : Nat) : ∀ (m i : Nat) (acc : Array Value), off + i + m ≤ C.length →
    (loadCellsFrom ⟨b, off, none⟩ i m acc).run P w = .ok (acc ++ ((C.drop (off + i)).take m).toArray) w := by
  intro m
  induction m with
  | zero => intro i acc _; simp [loadCellsFrom, go_sem]
  | succ m ih =>
    intro i acc hle
    have hlt : off + i < C.length := by omega
    have hc : w.cell? (Addr.add ⟨b, off, none⟩ i) = some C[off + i] := by
      have : Addr.add ⟨b, off, none⟩ i = ⟨b, off + i, none⟩ := by
        unfold Addr.add
        split
        · rename_i h0; subst h0; rfl
        · rfl
      rw [this]
      exact h.cell (by simp [hlt])
    unfold loadCellsFrom
    simp only [Sem.run_bind]
    have hl : (Go.load (Addr.add ⟨b, off, none⟩ i)).run P w = .ok C[off + i] w := run_load1 hc
    rw [hl, Result.andThen_ok, ih (i + 1) _ (by omega)]
    congr 1
    rw [List.drop_eq_getElem_cons hlt, List.take_succ_cons, show off + (i + 1) = off + i + 1 from by omega]
    simp

theorem RunsTo.loadAgg (hT : TblOk P T) {d : Option Tmp} {t : TypeId} {x : Operand} {ty : TypeId} {pos : String} {af : Array Edge} {g : Option (Nat × Bool)} {ti : TI} {b off : Nat} {e : TypeId} {C cs : List Value}
    (ht : lookT T t = some ti) (hag : isAggD ti.desc = true) (hx : ov E x = some (.pointer (some ⟨b, off, none⟩))) (hb : Blk e w b C) (hle : off + ti.size ≤ C.length) (hcs : (C.drop off).take ti.size = cs) :
    RunsTo P n ⟨d, .load t x, ty, pos, af, g⟩ E w (.agg cs.toArray) := by
  intro a ha
  have e1 := ha.eval hx
  generalize a.eval = ρ at e1
  have hr := run_loadCellsFrom (P := P) hb off ti.size 0 #[] (by omega)
  simp only [Nat.add_zero, hcs] at hr
  simp [execOp, Instr.loadAt, Instr.sureAddr, loadVar, e1, run_isAgg_T hT ht, hag, run_sizeOf_T hT ht, loadCells, hr, go_sem]

end
end Go.Qf
