/- Lemmas on the model and on the program's functions, part Qd. -/
import Derived.Laws.BytesString
import Derived.Laws.RangeString
import Derived.Lib.OthersKept
import Derived.Laws.Strings
import Derived.ProofKit
import Derived.OpenShut
import Derived.Lib.SmallJoins
import Derived.Carry
import Derived.ChangeMaps5
import Derived.Test.YteiphfahnikikaaRows
import Derived.Test.YteiphfahnikikaaQa
import Derived.Test.YteiphfahnikikaaQb
import Derived.Test.YteiphfahnikikaaQc
/- Strings: their bytes, and the operations on them. -/
namespace Go.Qf
open Go Go.RowKit Go.Lib

def strB (bs : List Nat) : ByteArray := ⟨(bs.map UInt8.ofNat).toArray⟩
def B8 (bs : List Nat) : Prop := ∀ b ∈ bs, b < 256
abbrev strV (bs : List Nat) : Value := .string (strB bs)
abbrev u8 (x : Nat) : Value := .int .u8 x

theorem strB_size (bs : List Nat) : (strB bs).size = bs.length := by simp [strB, ByteArray.size]
theorem B8.get {bs : List Nat} (h : B8 bs) {i x : Nat} (hx : bs[i]? = some x) : x < 256 := h x (List.mem_of_getElem? hx)
theorem B8.app {xs bs : List Nat} (h : B8 xs) (k : B8 bs) : B8 (xs ++ bs) := fun x hx => by
  rcases List.mem_append.1 hx with h1 | h1
  · exact h x h1
  · exact k x h1

theorem u8_toNat {b : Nat} (h : b < 256) : (UInt8.ofNat b).toNat = b := by
  simp [UInt8.toNat_ofNat']; omega

theorem map_u8_inj {xs bs : List Nat} (ha : B8 xs) (hb : B8 bs) (h : xs.map UInt8.ofNat = bs.map UInt8.ofNat) : xs = bs := by
  have h2 : (xs.map UInt8.ofNat).map UInt8.toNat = (bs.map UInt8.ofNat).map UInt8.toNat := by rw [h]
  simp only [List.map_map] at h2
  have e : ∀ {l : List Nat}, B8 l → l.map (UInt8.toNat ∘ UInt8.ofNat) = l := by
    intro l hl
    induction l with
    | nil => rfl
    | cons x r ih =>
      have hx : x < 256 := hl x (by simp)
      simp only [List.map_cons, Function.comp_apply, u8_toNat hx, ih (fun y hy => hl y (by simp [hy]))]
  rwa [e ha, e hb] at h2

theorem strB_inj {xs bs : List Nat} (ha : B8 xs) (hb : B8 bs) (h : strB xs = strB bs) : xs = bs := by
  refine map_u8_inj ha hb ?_
  have := congrArg (fun s : ByteArray => s.data.toList) h
  simpa [strB] using this

theorem strB_append (xs bs : List Nat) : strB xs ++ strB bs = strB (xs ++ bs) := by
  apply Go.WideShapes.bytes_inj
  simp [strB]

theorem strB_extract (bs : List Nat) (l h : Nat) : (strB bs).extract l h = strB ((bs.drop l).take (h - l)) := by
  apply Go.WideShapes.bytes_inj
  simp [strB, List.map_drop, List.map_take]

theorem strB_surj (s : ByteArray) : ∃ bs, B8 bs ∧ s = strB bs := by
  refine ⟨s.data.toList.map UInt8.toNat, ?_, ?_⟩
  · intro b hb
    obtain ⟨x, _, rfl⟩ := List.mem_map.1 hb
    exact x.toNat_lt
  · apply Go.WideShapes.bytes_inj
    have e : (UInt8.ofNat ∘ UInt8.toNat) = id := by funext x; simp
    simp [strB, e]

theorem strB_get {bs : List Nat} {i b : Nat} (h : bs[i]? = some b) : (strB bs)[i]? = some (UInt8.ofNat b) := by
  have hi := (List.getElem?_eq_some_iff.1 h).1
  have e : (strB bs)[i]? = (strB bs).data[i]? := rfl
  rw [e]
  simp [strB, h]

section
variable {P : Program} {T : List (Nat × TI)} {n : Nat} {E : List (Nat × Value)} {w : World}

theorem strB_beq {xs bs : List Nat} (ha : B8 xs) (hb : B8 bs) : ((strB xs).toList == (strB bs).toList) = decide (xs = bs) := by
  rw [ByteArray.toList_eq, ByteArray.toList_eq]
  by_cases h : xs = bs
  · subst h; simp
  · have : ¬ ((strB xs).data.toList = (strB bs).data.toList) := fun e => h (strB_inj ha hb (Go.WideShapes.bytes_inj e))
    simp only [decide_eq_false h]
    exact beq_eq_false_iff_ne.2 this

theorem RunsTo.strEql {d : Option Tmp} {t t2 : TypeId} {x y : Operand} {ty : TypeId} {pos : String} {af : Array Edge} {g : Option (Nat × Bool)} {xs bs : List Nat} (ha : B8 xs) (hb : B8 bs) (hx : ov E x = some (strV xs)) (hy : ov E y = some (strV bs)) :
    RunsTo P n ⟨d, .binOp .eql t x y t2, ty, pos, af, g⟩ E w (.bool (decide (xs = bs))) := by
  intro f hf
  have e1 := hf.eval hx
  have e2 := hf.eval hy
  generalize f.eval = ρ at e1 e2
  simp only [execOp, e1, e2, eqGuard, binOp, Op.stringOp, strB_beq ha hb]
  simp [go_sem]

theorem RunsTo.strNeq {d : Option Tmp} {t t2 : TypeId} {x y : Operand} {ty : TypeId} {pos : String} {af : Array Edge} {g : Option (Nat × Bool)} {xs bs : List Nat} (ha : B8 xs) (hb : B8 bs) (hx : ov E x = some (strV xs)) (hy : ov E y = some (strV bs)) :
    RunsTo P n ⟨d, .binOp .neq t x y t2, ty, pos, af, g⟩ E w (.bool (!(decide (xs = bs)))) := by
  intro f hf
  have e1 := hf.eval hx
  have e2 := hf.eval hy
  generalize f.eval = ρ at e1 e2
  simp only [execOp, e1, e2, eqGuard, binOp, Op.stringOp, strB_beq ha hb]
  simp [go_sem]

theorem RunsTo.strAdd {d : Option Tmp} {t t2 : TypeId} {x y : Operand} {ty : TypeId} {pos : String} {af : Array Edge} {g : Option (Nat × Bool)} {xs bs : List Nat} (hx : ov E x = some (strV xs)) (hy : ov E y = some (strV bs)) (hl : xs.length + bs.length ≤ 1000000000000) :
    RunsTo P n ⟨d, .binOp .add t x y t2, ty, pos, af, g⟩ E w (strV (xs ++ bs)) := by
  intro f hf
  have e1 := hf.eval hx
  have e2 := hf.eval hy
  generalize f.eval = ρ at e1 e2
  have hm : IntKind.i64.max = 9223372036854775807 := rfl
  have hle : ¬ ((((strB xs).size + (strB bs).size : Nat) : Int) > IntKind.i64.max) := by rw [strB_size, strB_size, hm]; omega
  simp only [execOp, e1, e2, eqGuard, binOp, Op.stringOp, if_neg hle, strB_append]
  simp [go_sem]

theorem RunsTo.strIndex (hT : TblOk P T) {d : Option Tmp} {t : TypeId} {x i : Operand} {ty : TypeId} {pos : String} {af : Array Edge} {g : Option (Nat × Bool)} {s1 s2 : Nat} {z : Value} {k : IntKind} {iv : Int} {bs : List Nat} (j b : Nat)
    (ht : lookT T t = some ⟨.string, s1, s2, z⟩) (hx : ov E x = some (strV bs)) (hi : ov E i = some (.int k iv)) (hj : iv = j) (hb : bs[j]? = some b) (h8 : b < 256) :
    RunsTo P n ⟨d, .index t x i, ty, pos, af, g⟩ E w (u8 b) := by
  intro f hf
  have e1 := hf.eval hx
  have e2 := hf.eval hi
  generalize f.eval = ρ at e1 e2
  subst hj
  have h0 : (0 : Int) ≤ (j : Int) := by omega
  have hg := strB_get hb
  have hrun : (Instr.index t (strV bs) (.int k (j : Int))).run P w = .ok (u8 b) w := by
    unfold Instr.index
    simp only [asIntOf, Sem.run_bind, Sem.run_pure, Result.andThen_ok, run_underlying_T hT ht]
    simp only [if_pos h0, Int.toNat_natCast, hg, Sem.run_pure, u8_toNat h8]
  simp only [execOp, e1, e2, Sem.run_bind, hrun, Result.andThen_ok, Sem.run_pure]

/-- s[l:] -/
theorem RunsTo.strFrom (hT : TblOk P T) {d : Option Tmp} {t : TypeId} {x i : Operand} {ty : TypeId} {pos : String} {af : Array Edge} {g : Option (Nat × Bool)} {s1 s2 : Nat} {z : Value} {k : IntKind} {iv : Int} {bs : List Nat} (j : Nat)
    (ht : lookT T t = some ⟨.string, s1, s2, z⟩) (hx : ov E x = some (strV bs)) (hi : ov E i = some (.int k iv)) (hj : iv = j) (hle : j ≤ bs.length) :
    RunsTo P n ⟨d, .slice t x (some i) none none, ty, pos, af, g⟩ E w (strV (bs.drop j)) := by
  intro f hf
  have e1 := hf.eval hx
  have e2 := hf.eval hi
  generalize f.eval = ρ at e1 e2
  subst hj
  have h1 : (0 : Int) ≤ (j : Int) ∧ (j : Int) ≤ ((strB bs).size : Nat) := by rw [strB_size]; omega
  have hrun : (Instr.slice t (strV bs) (some (.int k (j : Int))) none none).run P w = .ok (strV (bs.drop j)) w := by
    unfold Instr.slice
    simp only [Sem.run_bind, Sem.run_pure, Result.andThen_ok, run_underlying_T hT ht, Option.isSome_none, Bool.false_eq_true, if_false, Instr.sliceBounds, Instr.sliceBound, asIntOf, if_pos h1, Int.toNat_natCast]
    rw [strB_extract, strB_size, List.take_of_length_le (by simp)]
  simp only [execOp, Instr.sliceAt, e1, e2, Option.map_some, Option.map_none, Sem.run_bind, run_underlying_T hT ht, Result.andThen_ok, hrun, Sem.run_pure]

/-- s[:h] -/
theorem RunsTo.strTo (hT : TblOk P T) {d : Option Tmp} {t : TypeId} {x i : Operand} {ty : TypeId} {pos : String} {af : Array Edge} {g : Option (Nat × Bool)} {s1 s2 : Nat} {z : Value} {k : IntKind} {iv : Int} {bs : List Nat} (j : Nat)
    (ht : lookT T t = some ⟨.string, s1, s2, z⟩) (hx : ov E x = some (strV bs)) (hi : ov E i = some (.int k iv)) (hj : iv = j) (hle : j ≤ bs.length) :
    RunsTo P n ⟨d, .slice t x none (some i) none, ty, pos, af, g⟩ E w (strV (bs.take j)) := by
  intro f hf
  have e1 := hf.eval hx
  have e2 := hf.eval hi
  generalize f.eval = ρ at e1 e2
  subst hj
  have h1 : (0 : Int) ≤ (j : Int) ∧ (j : Int) ≤ ((strB bs).size : Nat) := by rw [strB_size]; omega
  have hrun : (Instr.slice t (strV bs) none (some (.int k (j : Int))) none).run P w = .ok (strV (bs.take j)) w := by
    unfold Instr.slice
    simp only [Sem.run_bind, Sem.run_pure, Result.andThen_ok, run_underlying_T hT ht, Option.isSome_none, Bool.false_eq_true, if_false, Instr.sliceBounds, Instr.sliceBound, asIntOf, if_pos h1, Int.toNat_natCast]
    rw [strB_extract, List.drop_zero, Nat.sub_zero]
  simp only [execOp, Instr.sliceAt, e1, e2, Option.map_some, Option.map_none, Sem.run_bind, run_underlying_T hT ht, Result.andThen_ok, hrun, Sem.run_pure]

theorem run_loadCells_row {e : TypeId} {a : Addr} {len cap : Nat} {cs : List Value} (h : Row e w (.slice (some a) len cap) cs) : (loadCells a len).run P w = .ok cs.toArray w := by
  obtain ⟨p, cap', hv, hl, _, hc⟩ := h
  simp only [Value.slice.injEq] at hv
  obtain ⟨rfl, rfl, rfl⟩ := hv
  have key : ∀ (m i : Nat) (acc : Array Value), i + m = cs.length → (loadCellsFrom a i m acc).run P w = .ok (acc ++ (cs.drop i).toArray) w := by
    intro m
    induction m with
    | zero => intro i acc hi; rw [List.drop_of_length_le (by omega)]; simp [loadCellsFrom, go_sem]
    | succ m ih =>
      intro i acc hi
      have hlt : i < cs.length := by omega
      unfold loadCellsFrom
      simp only [Sem.run_bind]
      rw [run_load1 (hc a rfl i cs[i] (by simp [hlt])), Result.andThen_ok, ih (i + 1) _ (by omega)]
      congr 1
      rw [List.drop_eq_getElem_cons hlt]
      simp
  have := key cs.length 0 #[] (by omega)
  simpa [loadCells] using this

theorem foldl_push (ns : List Nat) : ∀ (s : ByteArray), (ns.map (fun x : Nat => (x : Int))).foldl (fun r n => r.push (UInt8.ofNat n.toNat)) s = ⟨s.data ++ (ns.map UInt8.ofNat).toArray⟩ := by
  induction ns with
  | nil => intro s; simp
  | cons x r ih =>
    intro s
    simp only [List.map_cons, List.foldl_cons, Int.toNat_natCast]
    rw [ih]
    apply Go.WideShapes.bytes_inj
    simp [ByteArray.push]

/-- string(b) -/
theorem RunsTo.bytesStr (hT : TblOk P T) {d : Option Tmp} {t t2 : TypeId} {x : Operand} {ty : TypeId} {pos : String} {af : Array Edge} {g : Option (Nat × Bool)} {et : TypeId} {s1 s2 s3 s4 : Nat} {z z2 : Value} {ti : TI} {v : Value} {bs : List Nat}
    (ht : lookT T t = some ⟨.slice et, s1, s2, z⟩) (hte : lookT T et = some ti) (hk : ti.desc = .int .u8) (ht2 : lookT T t2 = some ⟨.string, s3, s4, z2⟩) (hx : ov E x = some v) (hr : Row et w v (bs.map u8)) :
    RunsTo P n ⟨d, .convert t t2 x, ty, pos, af, g⟩ E w (strV bs) := by
  intro f hf
  have e1 := hf.eval hx
  generalize f.eval = ρ at e1
  have hu := (hT et ti hte).1
  rw [hk] at hu
  have hconv : (Conv.bytesToString v).run P w = .ok (strV bs) w := by
    obtain ⟨p, cap, hv⟩ := hr.len
    subst hv
    cases p with
    | none =>
      have h0 := Row.nil_of hr
      have : bs = [] := by simpa using h0
      subst this
      simp only [Conv.bytesToString, Sem.run_pure]
      rfl
    | some a =>
      have hl := run_loadCells_row (P := P) hr
      have e : bs.map u8 = (bs.map (fun x : Nat => (x : Int))).map (Value.int .u8) := by simp [List.map_map, Function.comp_def]
      rw [e] at hl
      have := run_bytesToString (P := P) w a _ cap (bs.map (fun x : Nat => (x : Int))) hl
      rw [foldl_push] at this
      simpa [strV, strB] using this
  have hconv2 : (convert t t2 v).run P w = .ok (strV bs) w := by
    obtain ⟨p, cap, hv⟩ := hr.len
    subst hv
    unfold convert
    simp only [Sem.run_bind, run_underlying_T hT ht, run_underlying_T hT ht2, Result.andThen_ok, run_underlying hu, hconv]
  simp only [execOp, e1, Sem.run_bind, hconv2, Result.andThen_ok, Sem.run_pure]

/-! ### Ranging over a string -/

def It (w : World) (k : Nat) (s : ByteArray) (pos : Nat) : Prop := w.heap[k]? = some (.stringIter s pos)
theorem It.lt {k : Nat} {s : ByteArray} {pos : Nat} (h : It w k s pos) : k < w.heap.size := (Array.getElem?_eq_some_iff.1 h).1
theorem It.ext {w' : World} {k : Nat} {s : ByteArray} {pos : Nat} (h : It w k s pos) (hx : Ext w w') : It w' k s pos := (hx.block k h.lt).trans h
theorem It.upd {w' : World} {k b : Nat} {s : ByteArray} {pos : Nat} (h : It w k s pos) (hx : Upd b w w') (hne : k ≠ b) : It w' k s pos := (hx.block k h.lt hne).trans h

theorem OpR.rangeStr (hT : TblOk P T) {d : Option Tmp} {t : TypeId} {x : Operand} {ty : TypeId} {pos : String} {af : Array Edge} {g : Option (Nat × Bool)} {s1 s2 : Nat} {z : Value} {s : ByteArray} (ht : lookT T t = some ⟨.string, s1, s2, z⟩) (hx : ov E x = some (.string s)) :
    OpR P n ⟨d, .range t x, ty, pos, af, g⟩ E w (fun v w' => v = .pointer (some ⟨w.heap.size, 0, none⟩) ∧ It w' w.heap.size s 0 ∧ Ext w w' ∧ w'.heap.size = w.heap.size + 1) := by
  intro a ha Q K hK
  have e1 := ha.eval hx
  have hrun : (execOp a.eval ⟨d, .range t x, ty, pos, af, g⟩).run P w = .ok (.value (.pointer (some ⟨w.heap.size, 0, none⟩))) (w.iter s 0) := by
    generalize a.eval = ρ at e1
    simp only [execOp, e1, Sem.run_bind, run_range_string w t s (hT t _ ht).1, Result.andThen_ok, Sem.run_pure]
  unfold Oper.wp
  rw [hrun, Oper.upon_value]
  exact hK _ _ ⟨rfl, World.iter_heap w s 0, ext_alloc _ _, size_alloc1 _ _⟩

theorem OpR.nextEnd {d : Option Tmp} {x : Operand} {ty : TypeId} {pos : String} {af : Array Edge} {g : Option (Nat × Bool)} {k p : Nat} {s : ByteArray} (hx : ov E x = some (.pointer (some ⟨k, 0, none⟩))) (hi : It w k s p) (hp : ¬ p < s.size) :
    OpR P n ⟨d, .next x true, ty, pos, af, g⟩ E w (fun v w' => v = .tuple #[.bool false] ∧ w' = w) := by
  intro a ha Q K hK
  have e1 := ha.eval hx
  have hrun : (execOp a.eval ⟨d, .next x true, ty, pos, af, g⟩).run P w = .ok (.value (.tuple #[.bool false])) w := by
    generalize a.eval = ρ at e1
    simp only [execOp, e1, Sem.run_bind, run_next_end_at w k s p ty hi hp, Result.andThen_ok, Sem.run_pure]
  unfold Oper.wp
  rw [hrun, Oper.upon_value]
  exact hK _ _ ⟨rfl, rfl⟩

theorem upd_iterAt (w : World) (k : Nat) (s : ByteArray) (p : Nat) : Upd k w (w.iterAt k s p) :=
  ⟨rfl, rfl, rfl, by rw [iterAt_size]; exact Nat.le_refl _, fun j _ hj => iterAt_other w k j s p hj⟩

theorem OpR.nextAny {d : Option Tmp} {x : Operand} {ty : TypeId} {pos : String} {af : Array Edge} {g : Option (Nat × Bool)} {k p : Nat} {s : ByteArray} (hx : ov E x = some (.pointer (some ⟨k, 0, none⟩))) (hi : It w k s p) (hp : p < s.size) :
    OpR P n ⟨d, .next x true, ty, pos, af, g⟩ E w (fun v w' => v = .tuple #[.bool true, .int .i64 p, .int .i32 (Utf8.decode s p).1] ∧ It w' k s (p + (Utf8.decode s p).2) ∧ Upd k w w') := by
  intro a ha Q K hK
  have e1 := ha.eval hx
  have hrun : (execOp a.eval ⟨d, .next x true, ty, pos, af, g⟩).run P w = .ok (.value (.tuple #[.bool true, .int .i64 p, .int .i32 (Utf8.decode s p).1])) (w.iterAt k s (p + (Utf8.decode s p).2)) := by
    generalize a.eval = ρ at e1
    simp only [execOp, e1, Sem.run_bind, run_next_any_at w k s p ty hi hp, Result.andThen_ok, Sem.run_pure]
  unfold Oper.wp
  rw [hrun, Oper.upon_value]
  exact hK _ _ ⟨rfl, iterAt_heap w k s p _ hi, upd_iterAt w k s _⟩

theorem decode_low {bs : List Nat} {i b : Nat} (h : bs[i]? = some b) (hb : b < 128) : Utf8.decode (strB bs) i = (b, 1) := by
  have hi : i < (strB bs).size := by rw [strB_size]; exact (List.getElem?_eq_some_iff.1 h).1
  have e : (strB bs)[i]'hi = UInt8.ofNat b := by
    have := strB_get h
    rw [getElem?_pos (strB bs) i hi] at this
    exact Option.some.inj this
  have hn : ((strB bs)[i]'hi).toNat = b := by rw [e]; exact u8_toNat (by omega)
  rw [decode_ascii _ i hi (by rw [hn]; exact hb), hn]

theorem decode_high {bs : List Nat} {i b : Nat} (h : bs[i]? = some b) (h8 : b < 256) (hb : 128 ≤ b) : 128 ≤ (Utf8.decode (strB bs) i).1 := by
  have hi : i < (strB bs).size := by rw [strB_size]; exact (List.getElem?_eq_some_iff.1 h).1
  have hg : ((strB bs).get! (i + 0)).toNat = b := by
    have e : (strB bs)[i]'hi = UInt8.ofNat b := by
      have := strB_get h
      rw [getElem?_pos (strB bs) i hi] at this
      exact Option.some.inj this
    have e2 : (strB bs).get! (i + 0) = (strB bs)[i]'hi := by
      show (strB bs).data[i + 0]! = _
      rw [Nat.add_zero, getElem!_pos (strB bs).data i hi]
      rfl
    rw [e2, e]; exact u8_toNat h8
  unfold Utf8.decode
  simp only [hg]
  have hre : 128 ≤ Utf8.runeError := by decide
  repeat' split
  all_goals first | exact hre | (rename_i h1; simp only [ge_iff_le, Bool.and_eq_true, decide_eq_true_eq] at h1; omega) | omega

end

/-! ### Rows of other types stay -/
theorem Own.grownT {b1 b2 : Nat} {e1 e2 : TypeId} {w w' : World} {v1 v2 : Value} {c1 c2 : List Value} (h1 : Own b1 e1 w v1 c1) (h2 : Own b2 e2 w v2 c2) (hne : e1 ≠ e2) (hg : w.grownBy w' v2.ownBlock) : Own b1 e1 w' v1 c1 := by
  refine ⟨h1.1, ?_⟩
  rcases h1.2 with h0 | ⟨g, cap, cur, hv, hb, hgg, r⟩
  · exact .inl h0
  · refine .inr ⟨g, cap, cur, hv, hb, (hg.block g (Array.getElem?_eq_some_iff.1 hgg).1 ?_).trans hgg, r⟩
    intro he
    rcases h2.2 with ⟨h0, _⟩ | ⟨g', cap', cur', hv', _, hg', _⟩
    · rw [h0] at he; simp [Value.ownBlock] at he
    · rw [hv'] at he
      simp only [Value.ownBlock, Option.some.injEq] at he
      subst he
      rw [hgg] at hg'
      simp only [Option.some.injEq, Obj.cells.injEq] at hg'
      exact hne hg'.2.1

theorem Blk.grownT {b b2 : Nat} {t e2 : TypeId} {w w' : World} {v2 : Value} {C c2 : List Value} (h1 : Blk t w b C) (h2 : Own b2 e2 w v2 c2) (hne : t ≠ e2) (hg : w.grownBy w' v2.ownBlock) : Blk t w' b C := by
  refine (hg.block b h1.lt ?_).trans h1
  intro he
  rcases h2.2 with ⟨h0, _⟩ | ⟨g', cap', cur', hv', _, hg', _⟩
  · rw [h0] at he; simp [Value.ownBlock] at he
  · rw [hv'] at he
    simp only [Value.ownBlock, Option.some.injEq] at he
    subst he
    unfold Blk at h1
    rw [h1] at hg'
    simp only [Option.some.injEq, Obj.cells.injEq] at hg'
    exact hne hg'.2.1

theorem It.grown {b2 k pos : Nat} {s : ByteArray} {e2 : TypeId} {w w' : World} {v2 : Value} {c2 : List Value} (h1 : It w k s pos) (h2 : Own b2 e2 w v2 c2) (hg : w.grownBy w' v2.ownBlock) : It w' k s pos := by
  refine (hg.block k h1.lt ?_).trans h1
  intro he
  rcases h2.2 with ⟨h0, _⟩ | ⟨g', cap', cur', hv', _, hg', _⟩
  · rw [h0] at he; simp [Value.ownBlock] at he
  · rw [hv'] at he
    simp only [Value.ownBlock, Option.some.injEq] at he
    subst he
    unfold It at h1
    rw [h1] at hg'
    simp at hg'

theorem Own.updIt {b1 k pos : Nat} {e1 : TypeId} {s : ByteArray} {w w' : World} {v1 : Value} {c1 : List Value} (h1 : Own b1 e1 w v1 c1) (hi : It w k s pos) (hu : Upd k w w') : Own b1 e1 w' v1 c1 := by
  refine ⟨h1.1, ?_⟩
  rcases h1.2 with h0 | ⟨g, cap, cur, hv, hb, hgg, r⟩
  · exact .inl h0
  · refine .inr ⟨g, cap, cur, hv, hb, (hu.block g (Array.getElem?_eq_some_iff.1 hgg).1 ?_).trans hgg, r⟩
    intro e; subst e
    unfold It at hi
    rw [hi] at hgg
    simp at hgg

end Go.Qf

/- slices.Reverse of bytes. -/
namespace Go.Qf
open Go Go.RowKit Go.Proofs
set_option maxRecDepth 20000

/-- What the loop has done when it stands at i. -/
def revAt (cs D : List Value) (i : Nat) (C : List Value) : Prop :=
  C.length = (cs ++ D).length ∧ (∀ t, cs.length ≤ t → C[t]? = (cs ++ D)[t]?) ∧ ∀ t, t < cs.length → C[t]? = if t < i ∨ cs.length - 1 - i < t then cs[cs.length - 1 - t]? else cs[t]?

theorem revAt_zero (cs D : List Value) : revAt cs D 0 (cs ++ D) := by
  refine ⟨rfl, fun _ _ => rfl, fun t ht => ?_⟩
  rw [if_neg (by omega), List.getElem?_append_left ht]

theorem revAt_done {cs D C : List Value} {i : Nat} (h : revAt cs D i C) (hi : cs.length ≤ 2 * i + 1) : C = cs.reverse ++ D := by
  obtain ⟨h0, h1, h2⟩ := h
  apply List.ext_getElem?
  intro t
  by_cases ht : t < cs.length
  · rw [h2 t ht, List.getElem?_append_left (by simpa using ht), List.getElem?_reverse ht]
    by_cases hc : t < i ∨ cs.length - 1 - i < t
    · rw [if_pos hc]
    · rw [if_neg hc]
      have : cs.length - 1 - t = t := by omega
      rw [this]
  · rw [h1 t (by omega), List.getElem?_append_right (by omega), List.getElem?_append_right (by simp; omega)]
    simp

theorem revAt_step {cs D C : List Value} {i j : Nat} {x y : Value} (h : revAt cs D i C) (hj : j = cs.length - 1 - i) (hij : i < j) (hx : cs[i]? = some x) (hy : cs[j]? = some y) : revAt cs D (i + 1) ((C.set i y).set j x) := by
  obtain ⟨h0, h1, h2⟩ := h
  have hjl : j < cs.length := (List.getElem?_eq_some_iff.1 hy).1
  have hlen : cs.length ≤ C.length := by rw [h0]; simp
  refine ⟨by simpa using h0, ?_, ?_⟩
  · intro t ht
    rw [List.getElem?_set_ne (by omega), List.getElem?_set_ne (by omega)]
    exact h1 t ht
  · intro t ht
    by_cases e1 : t = j
    · subst e1
      rw [List.getElem?_set_self (by simp; omega), if_pos (.inr (by omega)), show cs.length - 1 - t = i from by omega, hx]
    · rw [List.getElem?_set_ne (fun e => e1 e.symm)]
      by_cases e2 : t = i
      · subst e2
        rw [List.getElem?_set_self (by omega), if_pos (.inl (by omega)), ← hj, hy]
      · rw [List.getElem?_set_ne (fun e => e2 e.symm), h2 t ht]
        by_cases hc : t < i ∨ cs.length - 1 - i < t
        · rw [if_pos hc, if_pos (by omega)]
        · rw [if_neg hc, if_neg (by omega)]

theorem reverse_spec (w : World) (b cap : Nat) (cs D : List Value) (hb : Blk 5 w b (cs ++ D)) (hu8 : ∀ c ∈ cs, c.cells = #[c] ∧ c.oneCell' = true) (hlen : cs.length ≤ 1000000000) :
    Calls Try.prog 72 #[.slice (some ⟨b, 0, none⟩) cs.length cap] w (Ret fun _ w' => Upd b w w' ∧ Blk 5 w' b (cs.reverse ++ D)) := by
  refine calls_of_St (args := [_]) Try.func72 rfl Try.ntmps72 rfl ?_
  (iterate 6 ((repeat with_reducible first|refine .nil ?_|refine .then_normal ?_|refine .block_normal ?_|refine .seq ?_|refine .block ?_|refine .skip ?_|refine .region ?_|refine .ret ?_|refine .then_ret ?_|refine .block_ret ?_|refine .exit ?_|refine .then_exit ?_|refine .block_exit ?_|refine .block_other rfl ?_); try refine .run TBok 99 rfl ?_))
  refine St.loop (fun i : Nat => [(0, .slice (some ⟨b, 0, none⟩) cs.length cap), (2, .int .i64 i), (3, .int .i64 ((cs.length : Int) - 1 - i))])
    (fun i w2 => Upd b w w2 ∧ i ≤ cs.length ∧ ∃ C, Blk 5 w2 b C ∧ revAt cs D i C)
    (fun i => cs.length - i) 0 ⟨rfl, rfl, ?_, trivial⟩ ⟨Upd.refl _ _, by omega, _, hb, revAt_zero cs D⟩ ?_
  · show some (Value.int .i64 (IntKind.i64.wrap ((cs.length : Int) - 1))) = _
    rw [i64_id (by omega) (by omega)]; simp
  rintro i w2 ⟨hu2, hi, C, hb2, hC⟩
  by_cases hlt : 2 * i + 1 < cs.length
  · have hxi : cs[i]? = some cs[i] := by simp
    have hj : cs.length - 1 - i < cs.length := by omega
    have hyj : cs[cs.length - 1 - i]? = some cs[cs.length - 1 - i] := by simp
    generalize cs[i] = x at hxi
    generalize cs[cs.length - 1 - i] = y at hyj
    obtain ⟨j, hjd⟩ : ∃ j, j = cs.length - 1 - i := ⟨_, rfl⟩
    rw [← hjd] at hyj hj
    have hjI : (cs.length : Int) - 1 - i = (j : Int) := by omega
    rw [hjI]
    have hCl : cs.length ≤ C.length := by rw [hC.1]; simp
    have hCi : C[i]? = some x := by rw [hC.2.2 i (by omega), if_neg (by omega)]; exact hxi
    have hCj : C[j]? = some y := by rw [hC.2.2 j hj, if_neg (by omega)]; exact hyj
    have hx1 := hu8 x (List.mem_of_getElem? hxi)
    have hy1 := hu8 y (List.mem_of_getElem? hyj)
    (repeat with_reducible first|refine .nil ?_|refine .then_normal ?_|refine .block_normal ?_|refine .seq ?_|refine .block ?_|refine .skip ?_|refine .region ?_|refine .ret ?_|refine .then_ret ?_|refine .block_ret ?_|refine .exit ?_|refine .then_exit ?_|refine .block_exit ?_|refine .block_other rfl ?_)
    refine StL.as TBok 3 (.bool true) rfl (bool_true (by omega)) ?_
    (iterate 6 ((repeat with_reducible first|refine .nil ?_|refine .then_normal ?_|refine .block_normal ?_|refine .seq ?_|refine .block ?_|refine .skip ?_|refine .region ?_|refine .ret ?_|refine .then_ret ?_|refine .block_ret ?_|refine .exit ?_|refine .then_exit ?_|refine .block_exit ?_|refine .block_other rfl ?_); try refine .run TBok 99 rfl ?_))
    refine St.condT rfl rfl ?_
    (repeat with_reducible first|refine .nil ?_|refine .then_normal ?_|refine .block_normal ?_|refine .seq ?_|refine .block ?_|refine .skip ?_|refine .region ?_|refine .ret ?_|refine .then_ret ?_|refine .block_ret ?_|refine .exit ?_|refine .then_exit ?_|refine .block_exit ?_|refine .block_other rfl ?_)
    refine St.any TBfol rfl ?_
    intro w3 hx3 _ hh3
    have hb3 := hb2.ext hx3
    have hu3 : Upd b w w3 := hu2.trans (hx3.upd b)
    refine WA.takes (fuel := 8) TBok (by kernel_rfl) (fun _ _ _ _ _ h => h) [0, 1, 2, 3, 4, 5, 8, 9] (by kernel_rfl) rfl ?_
    refine WA.take 6 rfl rfl (by kernel_rfl) (by kernel_rfl) (by kernel_rfl) (fun _ _ _ h => h) rfl rfl (fun w => RunsTo.indexAddr TBok rfl rfl rfl rfl rfl (by omega) (by omega)) ?_
    refine WA.take 10 rfl rfl (by kernel_rfl) (by kernel_rfl) (by kernel_rfl) (fun _ _ _ h => h) rfl rfl (fun w => RunsTo.indexAddr TBok rfl rfl rfl rfl rfl (by omega) (by omega)) ?_
    simp only [Int.toNat_natCast, addr_add, Nat.zero_add]
    refine WA.two (i := 7) (j := 11) (by kernel_rfl) ?_ ?_
    · refine WOp.val rfl rfl rfl rfl (RunsTo.load TBok rfl rfl rfl (hb3.cell hCj)).op ?_
      rintro _ _ ⟨rfl, rfl⟩
      refine WA.one (i := 11) (by kernel_rfl) (WOp.val rfl rfl rfl rfl (RunsTo.load TBok rfl rfl rfl (hb3.cell hCi)).op ?_)
      rintro _ _ ⟨rfl, rfl⟩
      refine WA.one (i := 12) (by kernel_rfl) (WOp.val rfl rfl rfl rfl (RunsTo.indexAddr TBok rfl rfl rfl rfl rfl (by omega) (by omega)).op ?_)
      rintro _ _ ⟨rfl, rfl⟩
      simp only [Int.toNat_natCast, addr_add, Nat.zero_add]
      refine WA.one (i := 13) (by kernel_rfl) (WOp.eff rfl rfl rfl (OpR.store TBok (vs := [y]) rfl rfl rfl (by rw [hy1.1]) rfl hb3 (by simp; omega) (by simpa using hy1.2)) ?_)
      rintro _ w4 ⟨hb4, hu4⟩
      refine WA.one (i := 14) (by kernel_rfl) (WOp.val rfl rfl rfl rfl (RunsTo.indexAddr TBok rfl rfl rfl rfl rfl (by omega) (by omega)).op ?_)
      rintro _ _ ⟨rfl, rfl⟩
      simp only [Int.toNat_natCast, addr_add, Nat.zero_add]
      refine WA.one (i := 15) (by kernel_rfl) (WOp.eff rfl rfl rfl (OpR.store TBok (vs := [x]) rfl rfl rfl (by rw [hx1.1]) rfl hb4 (by simp [over]; omega) (by simpa using hx1.2)) ?_)
      rintro _ w5 ⟨hb5, hu5⟩
      refine WA.done (by kernel_rfl) ?_
      (iterate 6 ((repeat with_reducible first|refine .nil ?_|refine .then_normal ?_|refine .block_normal ?_|refine .seq ?_|refine .block ?_|refine .skip ?_|refine .region ?_|refine .ret ?_|refine .then_ret ?_|refine .block_ret ?_|refine .exit ?_|refine .then_exit ?_|refine .block_exit ?_|refine .block_other rfl ?_); try refine .run TBok 99 rfl ?_))
      refine Out.again (i + 1) ⟨rfl, ?_, ?_, trivial⟩ ⟨(hu3.trans hu4).trans hu5, by omega, _, hb5, revAt_step hC hjd (by omega) hxi hyj⟩ (by omega)
      · show some (Value.int .i64 (IntKind.i64.wrap ((i : Int) + 1))) = _
        rw [i64_id (by omega) (by omega)]; rfl
      · show some (Value.int .i64 (IntKind.i64.wrap ((j : Int) - 1))) = _
        rw [i64_id (by omega) (by omega)]; congr 2; omega
    · refine WOp.val rfl rfl rfl rfl (RunsTo.load TBok rfl rfl rfl (hb3.cell hCi)).op ?_
      rintro _ _ ⟨rfl, rfl⟩
      refine WA.one (i := 7) (by kernel_rfl) (WOp.val rfl rfl rfl rfl (RunsTo.load TBok rfl rfl rfl (hb3.cell hCj)).op ?_)
      rintro _ _ ⟨rfl, rfl⟩
      refine WA.one (i := 12) (by kernel_rfl) (WOp.val rfl rfl rfl rfl (RunsTo.indexAddr TBok rfl rfl rfl rfl rfl (by omega) (by omega)).op ?_)
      rintro _ _ ⟨rfl, rfl⟩
      simp only [Int.toNat_natCast, addr_add, Nat.zero_add]
      refine WA.one (i := 13) (by kernel_rfl) (WOp.eff rfl rfl rfl (OpR.store TBok (vs := [y]) rfl rfl rfl (by rw [hy1.1]) rfl hb3 (by simp; omega) (by simpa using hy1.2)) ?_)
      rintro _ w4 ⟨hb4, hu4⟩
      refine WA.one (i := 14) (by kernel_rfl) (WOp.val rfl rfl rfl rfl (RunsTo.indexAddr TBok rfl rfl rfl rfl rfl (by omega) (by omega)).op ?_)
      rintro _ _ ⟨rfl, rfl⟩
      simp only [Int.toNat_natCast, addr_add, Nat.zero_add]
      refine WA.one (i := 15) (by kernel_rfl) (WOp.eff rfl rfl rfl (OpR.store TBok (vs := [x]) rfl rfl rfl (by rw [hx1.1]) rfl hb4 (by simp [over]; omega) (by simpa using hx1.2)) ?_)
      rintro _ w5 ⟨hb5, hu5⟩
      refine WA.done (by kernel_rfl) ?_
      (iterate 6 ((repeat with_reducible first|refine .nil ?_|refine .then_normal ?_|refine .block_normal ?_|refine .seq ?_|refine .block ?_|refine .skip ?_|refine .region ?_|refine .ret ?_|refine .then_ret ?_|refine .block_ret ?_|refine .exit ?_|refine .then_exit ?_|refine .block_exit ?_|refine .block_other rfl ?_); try refine .run TBok 99 rfl ?_))
      refine Out.again (i + 1) ⟨rfl, ?_, ?_, trivial⟩ ⟨(hu3.trans hu4).trans hu5, by omega, _, hb5, revAt_step hC hjd (by omega) hxi hyj⟩ (by omega)
      · show some (Value.int .i64 (IntKind.i64.wrap ((i : Int) + 1))) = _
        rw [i64_id (by omega) (by omega)]; rfl
      · show some (Value.int .i64 (IntKind.i64.wrap ((j : Int) - 1))) = _
        rw [i64_id (by omega) (by omega)]; congr 2; omega
  · (repeat with_reducible first|refine .nil ?_|refine .then_normal ?_|refine .block_normal ?_|refine .seq ?_|refine .block ?_|refine .skip ?_|refine .region ?_|refine .ret ?_|refine .then_ret ?_|refine .block_ret ?_|refine .exit ?_|refine .then_exit ?_|refine .block_exit ?_|refine .block_other rfl ?_)
    refine StL.as TBok 3 (.bool false) rfl (bool_false (by omega)) ?_
    (iterate 6 ((repeat with_reducible first|refine .nil ?_|refine .then_normal ?_|refine .block_normal ?_|refine .seq ?_|refine .block ?_|refine .skip ?_|refine .region ?_|refine .ret ?_|refine .then_ret ?_|refine .block_ret ?_|refine .exit ?_|refine .then_exit ?_|refine .block_exit ?_|refine .block_other rfl ?_); try refine .run TBok 99 rfl ?_))
    refine St.condF rfl rfl ?_
    (repeat with_reducible first|refine .nil ?_|refine .then_normal ?_|refine .block_normal ?_|refine .seq ?_|refine .block ?_|refine .skip ?_|refine .region ?_|refine .ret ?_|refine .then_ret ?_|refine .block_ret ?_|refine .exit ?_|refine .then_exit ?_|refine .block_exit ?_|refine .block_other rfl ?_)
    refine Out.none0 rfl ⟨hu2, ?_⟩
    rw [← revAt_done hC (by omega)]
    exact hb2

end Go.Qf

/- Decimal digits: plain arithmetic. -/
namespace Go.Qf

/-- The first k decimal digits of n, the least first, as bytes. -/
def pad : Nat → Nat → List Nat
  | 0, _ => []
  | k + 1, n => (48 + n % 10) :: pad k (n / 10)

theorem pad_length : ∀ k n, (pad k n).length = k := by
  intro k
  induction k with
  | zero => intro n; rfl
  | succ k ih => intro n; simp [pad, ih]

theorem pad_succ : ∀ k n, pad (k + 1) n = pad k n ++ [48 + n / 10 ^ k % 10] := by
  intro k
  induction k with
  | zero => intro n; simp [pad]
  | succ k ih =>
    intro n
    have h := ih (n / 10)
    rw [show pad (k + 1 + 1) n = (48 + n % 10) :: pad (k + 1) (n / 10) from rfl, h]
    rw [Nat.div_div_eq_div_mul, show 10 * 10 ^ k = 10 ^ (k + 1) from by rw [Nat.pow_succ, Nat.mul_comm]]
    rfl

theorem pad_lim : ∀ k n, ∀ b ∈ pad k n, 48 ≤ b ∧ b ≤ 57 := by
  intro k
  induction k with
  | zero => intro n b hb; cases hb
  | succ k ih =>
    intro n b hb
    rcases List.mem_cons.1 hb with rfl | hb
    · omega
    · exact ih _ b hb

/-- The decimal digits of n, the least first. -/
def digsF : Nat → Nat → List Nat
  | 0, _ => []
  | f + 1, n => if n = 0 then [] else (48 + n % 10) :: digsF f (n / 10)
def digs (n : Nat) : List Nat := digsF n n

theorem digsF_enough : ∀ (f g n : Nat), n ≤ f → n ≤ g → digsF f n = digsF g n := by
  intro f
  induction f with
  | zero =>
    intro g n h1 h2
    have : n = 0 := by omega
    subst this
    cases g <;> simp [digsF]
  | succ f ih =>
    intro g n h1 h2
    cases g with
    | zero =>
      have : n = 0 := by omega
      subst this
      simp [digsF]
    | succ g =>
      simp only [digsF]
      split
      · rfl
      · rw [ih g (n / 10) (by omega) (by omega)]

theorem digs_zero : digs 0 = [] := rfl
theorem digs_eq (n : Nat) (h : n ≠ 0) : digs n = (48 + n % 10) :: digs (n / 10) := by
  unfold digs
  obtain ⟨m, rfl⟩ : ∃ m, n = m + 1 := ⟨n - 1, by omega⟩
  rw [show digsF (m + 1) (m + 1) = (48 + (m + 1) % 10) :: digsF m ((m + 1) / 10) from by simp [digsF]]
  rw [digsF_enough m ((m + 1) / 10) ((m + 1) / 10) (by omega) (Nat.le_refl _)]

theorem pad_digs : ∀ k n, n < 10 ^ k → 10 ^ k ≤ 10 * n → pad k n = digs n := by
  intro k
  induction k with
  | zero => intro n h1 h2; simp at h1; subst h1; simp at h2
  | succ k ih =>
    intro n h1 h2
    have hn : n ≠ 0 := by
      intro e; subst e
      have : 0 < 10 ^ (k + 1) := Nat.pow_pos (by decide)
      omega
    rw [digs_eq n hn]
    show (48 + n % 10) :: pad k (n / 10) = _
    congr 1
    rw [Nat.pow_succ] at h1 h2
    cases k with
    | zero =>
      have : n / 10 = 0 := by simp at h1; omega
      rw [this]; rfl
    | succ k =>
      refine ih (n / 10) (by omega) ?_
      rw [Nat.pow_succ] at h1 h2 ⊢
      omega

theorem digs_pos (n : Nat) (h : n ≠ 0) : digs n ≠ [] := by rw [digs_eq n h]; simp

theorem digs_lim (n : Nat) : ∀ b ∈ digs n, 48 ≤ b ∧ b ≤ 57 := by
  induction n using Nat.strongRecOn with
  | _ n ih =>
    by_cases h : n = 0
    · subst h; intro b hb; cases hb
    · rw [digs_eq n h]
      intro b hb
      rcases List.mem_cons.1 hb with rfl | hb
      · omega
      · exact ih (n / 10) (by omega) b hb

/-- The text of a natural number, and of an integer. -/
def fmtN (n : Nat) : List Nat := if n = 0 then [48] else (digs n).reverse
def fmtI (a : Int) : List Nat := if a < 0 then 45 :: fmtN a.natAbs else fmtN a.natAbs

theorem fmtN_lim (n : Nat) : ∀ b ∈ fmtN n, 48 ≤ b ∧ b ≤ 57 := by
  unfold fmtN
  split
  · intro b hb; simp at hb; omega
  · intro b hb; exact digs_lim n b (by simpa using hb)

theorem fmtI_lim (a : Int) : ∀ b ∈ fmtI a, b < 256 := by
  unfold fmtI
  split
  · intro b hb
    rcases List.mem_cons.1 hb with rfl | hb
    · omega
    · have := fmtN_lim _ b hb; omega
  · intro b hb; have := fmtN_lim _ b hb; omega

theorem pow10_8 (k : Nat) : 8 ^ k ≤ 10 ^ k := Nat.pow_le_pow_left (by decide) k

/-- How many digits a number of so many limbs has. -/
theorem digits_le {N k len : Nat} (hN : N < 4294967296 ^ len) (hk : 10 ^ k ≤ N) : k ≤ 11 * len := by
  have h1 : 2 ^ (3 * k) ≤ 10 ^ k := by rw [Nat.pow_mul]; exact pow10_8 k
  have h2 : 4294967296 ^ len = 2 ^ (32 * len) := by rw [Nat.pow_mul]
  rw [h2] at hN
  have h3 : 2 ^ (3 * k) < 2 ^ (32 * len) := by omega
  have := (Nat.pow_lt_pow_iff_right (by decide : 1 < 2)).1 h3
  omega

theorem digs_length_le {N k : Nat} (h : N < 10 ^ k) : (digs N).length ≤ k := by
  induction k generalizing N with
  | zero => simp at h; subst h; simp [digs_zero]
  | succ k ih =>
    by_cases h0 : N = 0
    · subst h0; simp [digs_zero]
    · rw [digs_eq N h0]
      rw [Nat.pow_succ] at h
      have := ih (N := N / 10) (by omega)
      simp; omega

theorem digs_length_limbs {N len : Nat} (hN : N < 4294967296 ^ len) : (digs N).length ≤ 11 * len + 1 := by
  refine digs_length_le ?_
  rcases Nat.lt_or_ge N (10 ^ (11 * len + 1)) with h | h
  · exact h
  · have := digits_le hN h; omega

end Go.Qf

/- integer.Format. -/
namespace Go.Qf
open Go Go.RowKit Go.Proofs
set_option maxRecDepth 20000

theorem Own.opened {base : Nat} {e : TypeId} {w : World} {v : Value} {cs : List Value} (h : Own base e w v cs) (hne : cs ≠ []) : ∃ g cap D, v = .slice (some ⟨g, 0, none⟩) cs.length cap ∧ base ≤ g ∧ Blk e w g (cs ++ D) ∧ cap = cs.length + D.length ∧ cap ≤ maxLen := by
  obtain ⟨_, h2⟩ := h
  rcases h2 with ⟨_, h0⟩ | ⟨g, cap, cur, hv, hg, hh, hn, hm, hs, ht⟩
  · exact absurd (List.eq_nil_of_length_eq_zero h0) hne
  · simp only [Nat.mul_one] at hs ht
    refine ⟨g, cap, cur.toList.drop cs.length, hv, hg, ?_, ?_, hm⟩
    · have e1 := List.take_append_drop cs.length cur.toList
      rw [ht] at e1
      unfold Blk
      rw [hh, e1]
    · simp; omega

theorem Own.form {base : Nat} {e : TypeId} {w : World} {v : Value} {cs : List Value} (h : Own base e w v cs) : ∃ p cap, v = .slice p cs.length cap ∧ cs.length ≤ cap := by
  obtain ⟨p, cap, hv, hl, _⟩ := h.row
  exact ⟨p, cap, hv, hl⟩

theorem u8_one (bs : List Nat) : ∀ c ∈ bs.map u8, c.oneCell' = true := by
  intro c hc; simp at hc; obtain ⟨x, _, rfl⟩ := hc; rfl

/-- append(text, b): the text in a slice of the call's own. -/
theorem StL.push8 {n : Nat} {E : List (Nat × Value)} {w w0 : World} {ops : Array Oper} {rest : List Oper} {Q : Exit → Act → World → Prop} {d1 d2 : Nat} {x : Operand} {s : Nat} {ty ty2 : TypeId} {pos pos2 : String} {af af2 : Array Edge} {base : Nat} {tv : Value} {bs : List Nat} (b : Nat) {bv : Int}
    (hx : ov E x = some (.int .u8 bv)) (hbv : bv = b) (hs : ∀ p, look ((d1, p) :: E) s = some tv) (hown : Own base 5 w tv (bs.map u8)) (hlen : bs.length ≤ 100000000000) (hx0 : Ext w0 w) (hb0 : w0.heap.size ≤ base) (hbase : base ≤ w.heap.size) (hn : Nat.blt d1 n = true) (hn2 : Nat.blt d2 n = true)
    (next : ∀ p v' w' wm, Ext w wm → Own base 5 wm tv (bs.map u8) → wm.grownBy w' tv.ownBlock → Own base 5 w' v' ((bs ++ [b]).map u8) → Ext w0 w' → StL Try.prog n ((d2, v') :: (d1, p) :: E) w' ops rest Q) :
    StL Try.prog n E w ops (⟨some d1, .buildSlice 22 1 #[(0, x)], ty, pos, af, none⟩ :: ⟨some d2, .call ⟨.builtin .append, #[.tmp s, .tmp d1], #[22, 22]⟩, ty2, pos2, af2, none⟩ :: rest) Q := by
  subst hbv
  refine StL.step rfl rfl hn (OpR.single TBok rfl rfl rfl hx) ?_
  rintro _ wm ⟨rfl, hbm, hxm, hzm⟩
  have hown' := hown.ext hxm
  have hrow : Row 5 wm (.slice (some ⟨w.heap.size, 0, none⟩) 1 1) ([b].map u8) := hbm.row rfl (by simp) (by simp) rfl
  refine StL.step rfl rfl hn2 (OpR.append TBok rfl rfl rfl rfl (hs _) (look_cons_self _ _ _) hown' hrow (u8_one [b]) (by simp; omega) (by simp; omega) (by have := hxm.size; omega)) ?_
  rintro v' w' ⟨ho, hg, _⟩
  refine next _ v' w' wm hxm hown' hg ?_ ((hx0.trans hxm).grown hown' hb0 hg)
  rw [List.map_append]; exact ho

theorem i64_of (n : Nat) (h : n ≤ 9223372036854775807) : IntKind.i64.wrap (n : Int) = n := i64_id (by omega) (by omega)

set_option maxHeartbeats 800000 in
theorem format_spec (w : World) (v : Value) (neg : Bool) (xs : List Nat) (h : Den w v neg xs) (hlen : xs.length ≤ 1000000) :
    Calls Try.prog 21 #[v] w (Ret fun r w' => Ext w w' ∧ r = strV (fmtI (sg neg (val xs)))) := by
  obtain ⟨p, cap, rfl, hs⟩ := h
  have hl1 := limbs_length_le xs hs.2
  refine calls_of_St (args := [_]) Try.func21 rfl Try.ntmps21 rfl ?_
  (repeat with_reducible first|refine .nil ?_|refine .then_normal ?_|refine .block_normal ?_|refine .seq ?_|refine .block ?_|refine .skip ?_|refine .region ?_|refine .ret ?_|refine .then_ret ?_|refine .block_ret ?_|refine .exit ?_|refine .then_exit ?_|refine .block_exit ?_|refine .block_other rfl ?_)
  refine StL.step rfl rfl rfl (OpR.box rfl) ?_
  rintro _ w1 ⟨rfl, hb1, hx1, hz1⟩
  (iterate 6 ((repeat with_reducible first|refine .nil ?_|refine .then_normal ?_|refine .block_normal ?_|refine .seq ?_|refine .block ?_|refine .skip ?_|refine .region ?_|refine .ret ?_|refine .then_ret ?_|refine .block_ret ?_|refine .exit ?_|refine .then_exit ?_|refine .block_exit ?_|refine .block_other rfl ?_); try refine .run TBok 99 rfl ?_))
  (refine StL.step rfl rfl rfl (RunsTo.load TBok rfl rfl rfl (Blk.cell (by first | assumption | exact Ext.refl _ | (first | apply Blk.ext | apply CanO.ext | apply Den.ext | apply Sl.ext | apply SlO.ext | apply Dn.ext | apply It.ext | apply CanR.ext | apply DnR.ext | skip) <;> (repeat first | assumption | refine Ext.trans ?_ (by assumption))) rfl)).op ?_; rintro _ _ ⟨rfl, rfl⟩)
  refine StL.step rfl rfl rfl (OpR.call fn_integer_trim rfl (trim_flow w1 _ _ _ (by first | assumption | exact Ext.refl _ | (first | apply Blk.ext | apply CanO.ext | apply Den.ext | apply Sl.ext | apply SlO.ext | apply Dn.ext | apply It.ext | apply CanR.ext | apply DnR.ext | skip) <;> (repeat first | assumption | refine Ext.trans ?_ (by assumption))) (by omega))) ?_
  rintro _ w2 ⟨hx2, rfl⟩
  refine StL.step rfl rfl rfl (OpR.call fn_slices_Clone_uint32_uint32 rfl (clone_flow (base := w.heap.size) w2 _ _ (clone_trim (by first | assumption | exact Ext.refl _ | (first | apply Blk.ext | apply CanO.ext | apply Den.ext | apply Sl.ext | apply SlO.ext | apply Dn.ext | apply It.ext | apply CanR.ext | apply DnR.ext | skip) <;> (repeat first | assumption | refine Ext.trans ?_ (by assumption)))) (by omega) (hx1.trans hx2).size)) ?_
  rintro mv w3 ⟨hx3, hm3⟩
  have hx03 : Ext w w3 := (by first | assumption | exact Ext.refl _ | (first | apply Blk.ext | apply CanO.ext | apply Den.ext | apply Sl.ext | apply SlO.ext | apply Dn.ext | apply It.ext | apply CanR.ext | apply DnR.ext | skip) <;> (repeat first | assumption | refine Ext.trans ?_ (by assumption)))
  have hb3 := (hb1.ext hx2).ext hx3
  obtain ⟨mp, mc, rfl, _⟩ := hm3.sl.form
  generalize hN : val xs = N at *
  have hNlt : N < 4294967296 ^ xs.length := by rw [← hN]; exact val_lt xs hs.2
  (iterate 6 ((repeat with_reducible first|refine .nil ?_|refine .then_normal ?_|refine .block_normal ?_|refine .seq ?_|refine .block ?_|refine .skip ?_|refine .region ?_|refine .ret ?_|refine .then_ret ?_|refine .block_ret ?_|refine .exit ?_|refine .then_exit ?_|refine .block_exit ?_|refine .block_other rfl ?_); try refine .run TBok 99 rfl ?_))
  by_cases h0 : N = 0
  · subst h0
    refine St.condT rfl rfl ?_
    (iterate 6 ((repeat with_reducible first|refine .nil ?_|refine .then_normal ?_|refine .block_normal ?_|refine .seq ?_|refine .block ?_|refine .skip ?_|refine .region ?_|refine .ret ?_|refine .then_ret ?_|refine .block_ret ?_|refine .exit ?_|refine .then_exit ?_|refine .block_exit ?_|refine .block_other rfl ?_); try refine .run TBok 99 rfl ?_))
    refine Out.ret1 rfl rfl ⟨hx03, ?_⟩
    cases neg <;> rfl
  refine St.condF rfl (by simp [limbs_eq_nil, h0]) ?_
  (iterate 6 ((repeat with_reducible first|refine .nil ?_|refine .then_normal ?_|refine .block_normal ?_|refine .seq ?_|refine .block ?_|refine .skip ?_|refine .region ?_|refine .ret ?_|refine .then_ret ?_|refine .block_ret ?_|refine .exit ?_|refine .then_exit ?_|refine .block_exit ?_|refine .block_other rfl ?_); try refine .run TBok 99 rfl ?_))
  -- the digits
  refine St.loop (fun g : Value × Value × Nat => [(1, .pointer (some ⟨w.heap.size, 0, none⟩)), (3, g.1), (4, g.2.1)])
    (fun g w' => Ext w w' ∧ SlO w.heap.size w' g.1 (limbs (N / 10 ^ g.2.2)) ∧ Own w.heap.size 5 w' g.2.1 ((pad g.2.2 N).map u8) ∧ Blk 25 w' w.heap.size [.bool neg, .slice p xs.length cap] ∧ g.2.2 ≤ 11 * xs.length + 9)
    (fun g => N / 10 ^ g.2.2) (.slice mp _ mc, .slice none 0 0, 0) ⟨rfl, rfl, rfl, trivial⟩ ⟨hx03, by simpa using hm3, Own.nil _ _ _, hb3, by dsimp only; omega⟩ ?_
  rintro ⟨mv4, tv4, k⟩ w4 ⟨hx4, hm4, ht4, hb4, hk4⟩
  dsimp only at hx4 hm4 ht4 hb4 hk4 ⊢
  obtain ⟨mp4, mc4, rfl, _⟩ := hm4.sl.form
  (iterate 6 ((repeat with_reducible first|refine .nil ?_|refine .then_normal ?_|refine .block_normal ?_|refine .seq ?_|refine .block ?_|refine .skip ?_|refine .region ?_|refine .ret ?_|refine .then_ret ?_|refine .block_ret ?_|refine .exit ?_|refine .then_exit ?_|refine .block_exit ?_|refine .block_other rfl ?_); try refine .run TBok 99 rfl ?_))
  by_cases hM : N / 10 ^ k = 0
  · -- all digits are there
    refine St.condF rfl (by rw [hM]; rfl) ?_
    have hNk : N < 10 ^ k := by
      rcases Nat.lt_or_ge N (10 ^ k) with h | h
      · exact h
      · have := Nat.div_pos h (Nat.pow_pos (by decide : 0 < 10)); omega
    (repeat with_reducible first|refine .nil ?_|refine .then_normal ?_|refine .block_normal ?_|refine .seq ?_|refine .block ?_|refine .skip ?_|refine .region ?_|refine .ret ?_|refine .then_ret ?_|refine .block_ret ?_|refine .exit ?_|refine .then_exit ?_|refine .block_exit ?_|refine .block_other rfl ?_)
    refine St.loop (fun g : Value × Nat => [(1, .pointer (some ⟨w.heap.size, 0, none⟩)), (4, g.1)])
      (fun g w' => w' = w4 ∧ Own w.heap.size 5 w4 g.1 ((pad g.2 N).map u8) ∧ N < 10 ^ g.2 ∧ g.2 ≤ k) (fun g => g.2) (tv4, k) ⟨rfl, rfl, trivial⟩ ⟨rfl, ht4, hNk, Nat.le_refl _⟩ ?_
    rintro ⟨tv5, j⟩ w5 ⟨rfl, ht5, hj5, hjk⟩
    dsimp only at ht5 hj5 hjk ⊢
    obtain ⟨tp5, tc5, rfl, hcap5⟩ := ht5.form
    obtain ⟨i, rfl⟩ : ∃ i, j = i + 1 := ⟨j - 1, by
      rcases Nat.eq_zero_or_pos j with e | e
      · subst e; simp at hj5; omega
      · omega⟩
    simp only [List.length_map, pad_length] at ht5 hcap5 ⊢
    have e1 : IntKind.i64.wrap (((i + 1 : Nat) : Int) - 1) = (i : Int) := by rw [i64_id (by omega) (by omega)]; omega
    have hdig : ((pad (i + 1) N).map u8)[i]? = some (u8 (48 + N / 10 ^ i % 10)) := by
      rw [pad_succ, List.map_append, List.getElem?_append_right (by simp [pad_length])]
      simp [pad_length]
    (repeat with_reducible first|refine .nil ?_|refine .then_normal ?_|refine .block_normal ?_|refine .seq ?_|refine .block ?_|refine .skip ?_|refine .region ?_|refine .ret ?_|refine .then_ret ?_|refine .block_ret ?_|refine .exit ?_|refine .then_exit ?_|refine .block_exit ?_|refine .block_other rfl ?_)
    refine .run TBok 99 rfl ?_
    refine StL.elem TBok i _ (Own.row ht5) hdig e1 rfl rfl rfl rfl rfl rfl rfl rfl rfl rfl (fun _ => rfl) ?_
    intro p1
    refine .run TBok 99 rfl ?_
    (refine StL.nil ?_; repeat with_reducible first | refine Out.then_normal ?_ | refine Out.block_normal ?_)
    by_cases hd : N / 10 ^ i % 10 = 0
    · refine St.condT rfl (by rw [hd]; rfl) ?_
      have hNi : N < 10 ^ i := by
        rw [Nat.pow_succ] at hj5
        rcases Nat.lt_or_ge N (10 ^ i) with h | h
        · exact h
        · have h1 := Nat.div_pos h (Nat.pow_pos (by decide : 0 < 10))
          have h2 : N / 10 ^ i < 10 := Nat.div_lt_of_lt_mul hj5
          omega
      (repeat with_reducible first|refine .nil ?_|refine .then_normal ?_|refine .block_normal ?_|refine .seq ?_|refine .block ?_|refine .skip ?_|refine .region ?_|refine .ret ?_|refine .then_ret ?_|refine .block_ret ?_|refine .exit ?_|refine .then_exit ?_|refine .block_exit ?_|refine .block_other rfl ?_)
      refine .run TBok 99 rfl ?_
      refine StL.step rfl rfl rfl (RunsTo.sliceHi TBok rfl rfl rfl rfl (by rw [e1]; omega) (by rw [e1]; omega)).op ?_
      rintro _ _ ⟨rfl, rfl⟩
      rw [e1]
      (iterate 6 ((repeat with_reducible first|refine .nil ?_|refine .then_normal ?_|refine .block_normal ?_|refine .seq ?_|refine .block ?_|refine .skip ?_|refine .region ?_|refine .ret ?_|refine .then_ret ?_|refine .block_ret ?_|refine .exit ?_|refine .then_exit ?_|refine .block_exit ?_|refine .block_other rfl ?_); try refine .run TBok 99 rfl ?_))
      refine Out.again (.slice tp5 i tc5, i) ⟨rfl, rfl, trivial⟩ ⟨rfl, ?_, hNi, by omega⟩ (Nat.lt_succ_self i)
      have := Own.cut ht5 i (by simp [pad_length])
      rw [pad_succ, ← List.map_take, List.take_left' (pad_length i N)] at this
      exact this
    · have hlow : 10 ^ (i + 1) ≤ 10 * N := by
        rw [Nat.pow_succ]
        rcases Nat.lt_or_ge N (10 ^ i) with h | h
        · rw [Nat.div_eq_of_lt h] at hd; simp at hd
        · omega
      have hpd := pad_digs (i + 1) N hj5 hlow
      refine St.condF rfl (by
        have : ¬ ((((48 + N / 10 ^ i % 10 : Nat) : Int)) = 48) := by omega
        simpa using this) ?_
      have hil : i + 1 ≤ 11 * xs.length + 9 := by omega
      generalize i + 1 = m at hpd ht5 hcap5 hil ⊢
      rw [hpd] at ht5
      have hdl : (digs N).length = m := by rw [← hpd, pad_length]
      (iterate 6 ((repeat with_reducible first|refine .nil ?_|refine .then_normal ?_|refine .block_normal ?_|refine .seq ?_|refine .block ?_|refine .skip ?_|refine .region ?_|refine .ret ?_|refine .then_ret ?_|refine .block_ret ?_|refine .exit ?_|refine .then_exit ?_|refine .block_exit ?_|refine .block_other rfl ?_); try refine .run TBok 99 rfl ?_))
      (refine StL.step rfl rfl rfl (RunsTo.load TBok rfl rfl rfl (Blk.cell (by first | assumption | exact Ext.refl _ | (first | apply Blk.ext | apply CanO.ext | apply Den.ext | apply Sl.ext | apply SlO.ext | apply Dn.ext | apply It.ext | apply CanR.ext | apply DnR.ext | skip) <;> (repeat first | assumption | refine Ext.trans ?_ (by assumption))) rfl)).op ?_; rintro _ _ ⟨rfl, rfl⟩)
      (refine StL.nil ?_; repeat with_reducible first | refine Out.then_normal ?_ | refine Out.block_normal ?_)
      -- the sign
      refine St.cutX (fun g : Value => [(4, g)]) (fun g w' => Ext w w' ∧ Own w.heap.size 5 w' g ((digs N ++ (if neg then [45] else [])).map u8)) ?_ ?_
      · cases neg with
        | true =>
          refine St.condT rfl rfl ?_
          (iterate 6 ((repeat with_reducible first|refine .nil ?_|refine .then_normal ?_|refine .block_normal ?_|refine .seq ?_|refine .block ?_|refine .skip ?_|refine .region ?_|refine .ret ?_|refine .then_ret ?_|refine .block_ret ?_|refine .exit ?_|refine .then_exit ?_|refine .block_exit ?_|refine .block_other rfl ?_); try refine .run TBok 99 rfl ?_))
          refine StL.push8 45 rfl rfl (fun _ => rfl) ht5 (by omega) hx4 (Nat.le_refl _) hx4.size rfl rfl ?_
          intro p2 v' w6 wm _ _ _ ho6 hx6
          refine .run TBok 99 rfl ?_
          exact StL.nil (Out.met v' ⟨rfl, trivial⟩ ⟨hx6, ho6⟩)
        | false =>
          refine St.condF rfl rfl ?_
          refine St.skip (Out.met _ ⟨rfl, trivial⟩ ⟨hx4, by simpa using ht5⟩)
      rintro tv6 w6 ⟨hx6, ht6⟩
      have hne : ((digs N ++ (if neg then [45] else [])).map u8) ≠ [] := by
        have := digs_pos N h0
        simp [this]
      have hlen6 : ((digs N ++ (if neg then [45] else [])).map u8).length ≤ m + 1 := by
        cases neg <;> simp [hdl]
      obtain ⟨g6, c6, D6, rfl, hg6, hb6, hc6, hm6⟩ := ht6.opened hne
      (iterate 6 ((repeat with_reducible first|refine .nil ?_|refine .then_normal ?_|refine .block_normal ?_|refine .seq ?_|refine .block ?_|refine .skip ?_|refine .region ?_|refine .ret ?_|refine .then_ret ?_|refine .block_ret ?_|refine .exit ?_|refine .then_exit ?_|refine .block_exit ?_|refine .block_other rfl ?_); try refine .run TBok 99 rfl ?_))
      refine StL.step rfl rfl rfl (OpR.call fn_slices_Reverse_byte_byte rfl (reverse_spec w6 g6 c6 _ D6 hb6 (by intro c hc; simp only [List.mem_map] at hc; obtain ⟨x, _, rfl⟩ := hc; exact ⟨rfl, rfl⟩) (by omega))) ?_
      rintro _ w7 ⟨hu7, hb7⟩
      have hx7 := hx6.then_upd hu7 hg6
      (iterate 6 ((repeat with_reducible first|refine .nil ?_|refine .then_normal ?_|refine .block_normal ?_|refine .seq ?_|refine .block ?_|refine .skip ?_|refine .region ?_|refine .ret ?_|refine .then_ret ?_|refine .block_ret ?_|refine .exit ?_|refine .then_exit ?_|refine .block_exit ?_|refine .block_other rfl ?_); try refine .run TBok 99 rfl ?_))
      have hrow : Row 5 w7 (.slice (some ⟨g6, 0, none⟩) ((digs N ++ (if neg then [45] else [])).map u8).length c6) ((fmtI (sg neg N)).map u8) := by
        have e : (fmtI (sg neg N)).map u8 = ((digs N ++ (if neg then [45] else [])).map u8).reverse := by
          rw [← List.map_reverse, List.reverse_append]
          congr 1
          unfold fmtI fmtN
          rw [sg_abs, if_neg h0]
          cases neg
          · rw [if_neg (by simp [sg])]; rfl
          · rw [if_pos (by simp [sg]; omega)]; rfl
        rw [e]
        refine hb7.row (by rw [List.length_reverse]) (by omega) ?_ ?_
        · simp at hc6 ⊢; omega
        · rw [List.drop_zero, List.take_left' (by rw [List.length_reverse])]
      refine StL.step rfl rfl rfl (RunsTo.bytesStr TBok rfl rfl rfl rfl rfl hrow).op ?_
      rintro _ _ ⟨rfl, rfl⟩
      (iterate 6 ((repeat with_reducible first|refine .nil ?_|refine .then_normal ?_|refine .block_normal ?_|refine .seq ?_|refine .block ?_|refine .skip ?_|refine .region ?_|refine .ret ?_|refine .then_ret ?_|refine .block_ret ?_|refine .exit ?_|refine .then_exit ?_|refine .block_exit ?_|refine .block_other rfl ?_); try refine .run TBok 99 rfl ?_))
      exact Out.ret1 rfl rfl ⟨hx7, rfl⟩
  · -- nine digits more
    have hk10 : 10 ^ k ≤ N := by
      rcases Nat.lt_or_ge N (10 ^ k) with h | h
      · exact absurd (Nat.div_eq_of_lt h) hM
      · exact h
    have hkb := digits_le hNlt hk10
    have hml : (limbs (N / 10 ^ k)).length ≤ 1000000 := by
      refine Nat.le_trans (limbs_length_mono _ N (Nat.div_le_self _ _)) ?_
      exact Nat.le_trans (limbs_length_lt hNlt) hlen
    have hpos : 0 < (limbs (N / 10 ^ k)).length := by
      rcases Nat.eq_zero_or_pos (limbs (N / 10 ^ k)).length with e | e
      · exact absurd (limbs_eq_nil.1 (List.eq_nil_of_length_eq_zero e)) hM
      · exact e
    refine St.condT rfl (by simp; omega) ?_
    obtain ⟨g, mc, D, hmv, hg, hbm, hmc, hmm⟩ := hm4.opened (fun e => hM (limbs_eq_nil.1 e))
    cases hmv
    (iterate 6 ((repeat with_reducible first|refine .nil ?_|refine .then_normal ?_|refine .block_normal ?_|refine .seq ?_|refine .block ?_|refine .skip ?_|refine .region ?_|refine .ret ?_|refine .then_ret ?_|refine .block_ret ?_|refine .exit ?_|refine .then_exit ?_|refine .block_exit ?_|refine .block_other rfl ?_); try refine .run TBok 99 rfl ?_))
    refine StL.step rfl rfl rfl (OpR.call fn_integer_divideByLimb rfl (divideByLimb_spec w4 g 0 mc4 1000000000 [] D _ hbm rfl hm4.2 (by omega) (by decide) (by decide))) ?_
    rintro _ w5 ⟨rfl, hu5, us, husl, huslim, husv, hb5⟩
    rw [val_limbs] at husv ⊢
    have hx5 := hx4.then_upd hu5 hg
    have hO5 : SlO w.heap.size w5 (.slice (some ⟨g, 0, none⟩) (limbs (N / 10 ^ k)).length mc4) us := SlO.closed hb5 huslim husl.symm hg (by omega) hmm
    have ht5 : Own w.heap.size 5 w5 tv4 ((pad k N).map u8) := Own.updT ht4 hu5 hbm (by decide)
    have hbb5 : Blk 25 w5 w.heap.size [.bool neg, .slice p xs.length cap] := by
      refine hb4.upd hu5 ?_
      intro e; subst e
      unfold Blk at hb4 hbm
      rw [hb4] at hbm
      simp at hbm
    (iterate 6 ((repeat with_reducible first|refine .nil ?_|refine .then_normal ?_|refine .block_normal ?_|refine .seq ?_|refine .block ?_|refine .skip ?_|refine .region ?_|refine .ret ?_|refine .then_ret ?_|refine .block_ret ?_|refine .exit ?_|refine .then_exit ?_|refine .block_exit ?_|refine .block_other rfl ?_); try refine .run TBok 99 rfl ?_))
    rw [← husl] at hO5 ⊢
    refine StL.step rfl rfl rfl (OpR.call fn_integer_trim rfl (trim_spec w5 _ _ hO5.sl (by omega))) ?_
    rintro _ w5 ⟨rfl, rfl, _⟩
    have hm5 := hO5.trimmed
    rw [husv] at hm5 ⊢
    rw [Nat.div_div_eq_div_mul, show 10 ^ k * 1000000000 = 10 ^ (k + 9) from by rw [Nat.pow_add]] at hm5 ⊢
    generalize hmv5 : cutTo (.slice (some ⟨g, 0, none⟩) us.length mc4) (limbs (N / 10 ^ (k + 9))).length = mv5 at hm5
    (iterate 6 ((repeat with_reducible first|refine .nil ?_|refine .then_normal ?_|refine .block_normal ?_|refine .seq ?_|refine .block ?_|refine .skip ?_|refine .region ?_|refine .ret ?_|refine .then_ret ?_|refine .block_ret ?_|refine .exit ?_|refine .then_exit ?_|refine .block_exit ?_|refine .block_other rfl ?_); try refine .run TBok 99 rfl ?_))
    refine St.loop (fun q : Value × Nat => [(1, .pointer (some ⟨w.heap.size, 0, none⟩)), (3, mv5), (4, q.1), (5, .int .u32 ((N / 10 ^ k % 1000000000 / 10 ^ q.2 : Nat) : Int)), (20, .int .i64 q.2)])
      (fun q w' => Ext w w' ∧ SlO w.heap.size w' mv5 (limbs (N / 10 ^ (k + 9))) ∧ Own w.heap.size 5 w' q.1 ((pad (k + q.2) N).map u8) ∧ Blk 25 w' w.heap.size [.bool neg, .slice p xs.length cap] ∧ q.2 ≤ 9)
      (fun q => 9 - q.2) (tv4, 0) ⟨rfl, rfl, rfl, ?_, rfl, trivial⟩ ⟨hx5, hm5, ht5, hbb5, by omega⟩ ?_
    · show some (Value.int .u32 ((N / 10 ^ k % 1000000000 : Nat) : Int)) = _
      simp
    rintro ⟨tv6, i⟩ w6 ⟨hx6, hm6, ht6, hb6, hi⟩
    dsimp only at hx6 hm6 ht6 hb6 hi ⊢
    by_cases hi9 : i < 9
    · (repeat with_reducible first|refine .nil ?_|refine .then_normal ?_|refine .block_normal ?_|refine .seq ?_|refine .block ?_|refine .skip ?_|refine .region ?_|refine .ret ?_|refine .then_ret ?_|refine .block_ret ?_|refine .exit ?_|refine .then_exit ?_|refine .block_exit ?_|refine .block_other rfl ?_)
      refine StL.as TBok 1 (.bool true) rfl (bool_true (by omega)) ?_
      (repeat with_reducible first|refine .nil ?_|refine .then_normal ?_|refine .block_normal ?_|refine .seq ?_|refine .block ?_|refine .skip ?_|refine .region ?_|refine .ret ?_|refine .then_ret ?_|refine .block_ret ?_|refine .exit ?_|refine .then_exit ?_|refine .block_exit ?_|refine .block_other rfl ?_)
      refine St.condT rfl rfl ?_
      (iterate 6 ((repeat with_reducible first|refine .nil ?_|refine .then_normal ?_|refine .block_normal ?_|refine .seq ?_|refine .block ?_|refine .skip ?_|refine .region ?_|refine .ret ?_|refine .then_ret ?_|refine .block_ret ?_|refine .exit ?_|refine .then_exit ?_|refine .block_exit ?_|refine .block_other rfl ?_); try refine .run TBok 99 rfl ?_))
      have hrest : N / 10 ^ k % 1000000000 / 10 ^ i < 4294967296 := by
        refine Nat.lt_of_le_of_lt (Nat.div_le_self _ _) ?_
        omega
      have hdig : N / 10 ^ k % 1000000000 / 10 ^ i % 10 = N / 10 ^ (k + i) % 10 := by
        have h9 : (1000000000 : Nat) = 10 ^ i * 10 ^ (9 - i) := by rw [← Nat.pow_add, show i + (9 - i) = 9 from by omega]
        rw [h9, Nat.mod_mul_right_div_self, Nat.div_div_eq_div_mul, ← Nat.pow_add, show 9 - i = (8 - i) + 1 from by omega, Nat.pow_succ, Nat.mul_comm (10 ^ (8 - i)) 10, Nat.mod_mul_right_mod]
      have hnext : N / 10 ^ k % 1000000000 / 10 ^ i / 10 = N / 10 ^ k % 1000000000 / 10 ^ (i + 1) := by
        rw [Nat.div_div_eq_div_mul, Nat.pow_succ]
      generalize N / 10 ^ k % 1000000000 / 10 ^ i = rest at hrest hdig hnext ⊢
      refine StL.step rfl rfl rfl (RunsTo.rem rfl rfl (by omega) (by decide)).op ?_
      rintro _ _ ⟨rfl, rfl⟩
      have e2 : IntKind.u8.wrap (IntKind.u32.wrap (48 + (rest : Int) % 10)) = ((48 + N / 10 ^ (k + i) % 10 : Nat) : Int) := by
        rw [← hdig]
        simp only [wrap_u32, wrap_u8]
        omega
      refine .run TBok 99 rfl ?_
      refine StL.push8 (48 + N / 10 ^ (k + i) % 10) rfl e2 (fun _ => rfl) ht6 (by rw [pad_length]; omega) hx6 (Nat.le_refl _) hx6.size rfl rfl ?_
      intro p2 v' w7 wm hxm htm hgr ho7 hx7
      rw [← pad_succ, Nat.add_assoc] at ho7
      have hm7 : SlO w.heap.size w7 mv5 (limbs (N / 10 ^ (k + 9))) := ⟨Own.grownT (hm6.ext hxm).1 htm (by decide) hgr, hm6.2⟩
      have hb7 := Blk.grownT (hb6.ext hxm) htm (by decide) hgr
      (iterate 6 ((repeat with_reducible first|refine .nil ?_|refine .then_normal ?_|refine .block_normal ?_|refine .seq ?_|refine .block ?_|refine .skip ?_|refine .region ?_|refine .ret ?_|refine .then_ret ?_|refine .block_ret ?_|refine .exit ?_|refine .then_exit ?_|refine .block_exit ?_|refine .block_other rfl ?_); try refine .run TBok 99 rfl ?_))
      refine StL.step rfl rfl rfl (RunsTo.quo rfl rfl (by omega) (by decide)).op ?_
      rintro _ _ ⟨rfl, rfl⟩
      (iterate 6 ((repeat with_reducible first|refine .nil ?_|refine .then_normal ?_|refine .block_normal ?_|refine .seq ?_|refine .block ?_|refine .skip ?_|refine .region ?_|refine .ret ?_|refine .then_ret ?_|refine .block_ret ?_|refine .exit ?_|refine .then_exit ?_|refine .block_exit ?_|refine .block_other rfl ?_); try refine .run TBok 99 rfl ?_))
      refine Out.again (v', i + 1) ⟨rfl, rfl, rfl, ?_, ?_, trivial⟩ ⟨hx7, hm7, ho7, hb7, by dsimp only; omega⟩ (by dsimp only; omega)
      · show some (Value.int .u32 (IntKind.u32.wrap ((rest : Int) / 10))) = _
        rw [← hnext, wrap_u32]
        congr 2
        omega
      · show some (Value.int .i64 (IntKind.i64.wrap ((i : Int) + 1))) = _
        rw [i64_id (by omega) (by omega)]; rfl
    · have hi' : i = 9 := by omega
      subst hi'
      (repeat with_reducible first|refine .nil ?_|refine .then_normal ?_|refine .block_normal ?_|refine .seq ?_|refine .block ?_|refine .skip ?_|refine .region ?_|refine .ret ?_|refine .then_ret ?_|refine .block_ret ?_|refine .exit ?_|refine .then_exit ?_|refine .block_exit ?_|refine .block_other rfl ?_)
      refine StL.as TBok 1 (.bool false) rfl (bool_false (by omega)) ?_
      (repeat with_reducible first|refine .nil ?_|refine .then_normal ?_|refine .block_normal ?_|refine .seq ?_|refine .block ?_|refine .skip ?_|refine .region ?_|refine .ret ?_|refine .then_ret ?_|refine .block_ret ?_|refine .exit ?_|refine .then_exit ?_|refine .block_exit ?_|refine .block_other rfl ?_)
      refine St.condF rfl rfl ?_
      (iterate 6 ((repeat with_reducible first|refine .nil ?_|refine .then_normal ?_|refine .block_normal ?_|refine .seq ?_|refine .block ?_|refine .skip ?_|refine .region ?_|refine .ret ?_|refine .then_ret ?_|refine .block_ret ?_|refine .exit ?_|refine .then_exit ?_|refine .block_exit ?_|refine .block_other rfl ?_); try refine .run TBok 99 rfl ?_))
      refine Out.again (mv5, tv6, k + 9) ⟨rfl, rfl, rfl, trivial⟩ ⟨hx6, hm6, ht6, hb6, by dsimp only; omega⟩ ?_
      show N / 10 ^ (k + 9) < N / 10 ^ k
      rw [Nat.pow_add, ← Nat.div_div_eq_div_mul]
      exact Nat.div_lt_self (by omega) (by decide)

end Go.Qf

/- The functions of package integer, by what their arguments denote. -/
namespace Go.Qf
open Go Go.RowKit Go.Proofs
set_option maxRecDepth 20000

/-- How many limbs an integer has. -/
def sz (a : Int) : Nat := (limbs a.natAbs).length

/-- The struct v denotes the integer a (it may have zeros at its end), and is not too long. -/
def Dn (w : World) (v : Value) (a : Int) : Prop := ∃ neg xs, Den w v neg xs ∧ sg neg (val xs) = a ∧ xs.length ≤ 1000000

theorem Dn.ext {w w' : World} {v : Value} {a : Int} (h : Dn w v a) (hx : Ext w w') : Dn w' v a := by
  obtain ⟨neg, xs, h1, h2⟩ := h
  exact ⟨neg, xs, h1.ext hx, h2⟩
theorem CanO.den' {base : Nat} {w : World} {v : Value} {a : Int} (h : CanO base w v a) : Den w v (decide (a < 0)) (limbs a.natAbs) := h.can.den
theorem val_canon (a : Int) : sg (decide (a < 0)) (val (limbs a.natAbs)) = a := by rw [val_limbs, sg_canon]
theorem CanO.dn {base : Nat} {w : World} {v : Value} {a : Int} (h : CanO base w v a) (hs : sz a ≤ 1000000) : Dn w v a := ⟨_, _, h.den', val_canon a, hs⟩
theorem Den.dn {w : World} {v : Value} {neg : Bool} {xs : List Nat} (h : Den w v neg xs) (hl : xs.length ≤ 1000000) : Dn w v (sg neg (val xs)) := ⟨_, _, h, rfl, hl⟩
theorem Dn.sz_le {w : World} {v : Value} {a : Int} (h : Dn w v a) : sz a ≤ 1000000 := by
  obtain ⟨neg, xs, h1, rfl, h3⟩ := h
  unfold sz
  rw [sg_abs]
  exact Nat.le_trans (limbs_length_le xs h1.lim) h3

theorem sz_zero : sz 0 = 0 := rfl
theorem sz_neg (a : Int) : sz (-a) = sz a := by unfold sz; rw [Int.natAbs_neg]
theorem sz_le_nat {a b : Int} (h : a.natAbs ≤ b.natAbs) : sz a ≤ sz b := limbs_length_mono _ _ h
theorem sz_add (a b : Int) : sz (a + b) ≤ max (sz a) (sz b) + 1 := by
  unfold sz
  exact Nat.le_trans (limbs_length_mono _ _ (Int.natAbs_add_le a b)) (limbs_add_length _ _)
theorem sz_sub (a b : Int) : sz (a - b) ≤ max (sz a) (sz b) + 1 := by
  rw [Int.sub_eq_add_neg]
  have := sz_add a (-b)
  rwa [sz_neg] at this
theorem sz_mul (a b : Int) : sz (a * b) ≤ sz a + sz b := by
  unfold sz
  rw [Int.natAbs_mul]
  exact limbs_mul_length _ _
theorem sz_small {a : Int} (h0 : -18446744073709551616 < a) (h1 : a < 18446744073709551616) : sz a ≤ 2 := limbs_length_le_two (by omega)
theorem sz_mod (a b : Int) : sz (a % b) ≤ max (sz a) (sz b) := by
  by_cases hb : b = 0
  · subst hb; rw [Int.emod_zero]; exact Nat.le_max_left _ _
  · have h1 := Int.emod_nonneg a hb
    have h2 := Int.emod_lt a hb
    have : sz (a % b) ≤ sz b := sz_le_nat (by omega)
    omega
theorem natAbs_div_le (a b : Int) : (a / b).natAbs ≤ a.natAbs := by
  by_cases hb : b = 0
  · subst hb; rw [Int.ediv_zero]; simp
  · have h := Int.mul_ediv_add_emod a b
    have h1 := Int.emod_nonneg a hb
    have h2 := Int.emod_lt a hb
    have hm : (b * (a / b)).natAbs = b.natAbs * (a / b).natAbs := Int.natAbs_mul _ _
    have hb1 : 1 ≤ b.natAbs := by omega
    have hq := Nat.le_mul_of_pos_left (a / b).natAbs hb1
    by_cases hq0 : (a / b).natAbs = 0
    · omega
    · obtain ⟨k, hk⟩ : ∃ k, (a / b).natAbs = k + 1 := ⟨(a / b).natAbs - 1, by omega⟩
      have h5 : b.natAbs * (a / b).natAbs = b.natAbs * k + b.natAbs := by rw [hk, Nat.mul_succ]
      have h6 := Nat.le_mul_of_pos_left k hb1
      generalize b * (a / b) = t at *
      generalize a % b = r at *
      generalize b.natAbs * (a / b).natAbs = u at *
      generalize b.natAbs * k = u' at *
      generalize (a / b).natAbs = q at *
      omega
theorem sz_div (a b : Int) : sz (a / b) ≤ sz a := sz_le_nat (natAbs_div_le a b)
theorem sz_nat_le {m : Nat} {b : Int} (h : m ≤ b.natAbs) : sz (m : Int) ≤ sz b := sz_le_nat (by simpa using h)
theorem sz_gcd (a b : Int) : sz ((Nat.gcd a.natAbs b.natAbs : Nat) : Int) ≤ max (sz a) (sz b) := by
  by_cases ha : a = 0
  · subst ha
    simp only [Int.natAbs_zero, Nat.gcd_zero_left]
    have : sz ((b.natAbs : Nat) : Int) ≤ sz b := sz_nat_le (Nat.le_refl _)
    omega
  · have : sz ((Nat.gcd a.natAbs b.natAbs : Nat) : Int) ≤ sz a := sz_nat_le (Nat.gcd_le_left _ (by omega))
    omega

section
variable {w : World} {x y : Value} {a b : Int}

theorem int64_dn (h : Dn w x a) : Calls Try.prog 67 #[x] w (Ret fun r w' => Ext w w' ∧ r = int64V a) := by
  obtain ⟨neg, xs, h1, rfl, h3⟩ := h
  exact int64_spec w x neg xs h1 (by omega)
theorem sign_dn (h : Dn w x a) : Calls Try.prog 73 #[x] w (Ret fun r w' => Ext w w' ∧ r = .int .i64 (signI a)) := by
  obtain ⟨neg, xs, h1, rfl, h3⟩ := h
  exact sign_spec w x neg xs h1 (by omega)
theorem cmp_dn (h : Dn w x a) (k : Dn w y b) : Calls Try.prog 88 #[x, y] w (Ret fun r w' => Ext w w' ∧ r = .int .i64 (cmpI a b)) := by
  obtain ⟨neg, xs, h1, rfl, h3⟩ := h
  obtain ⟨neg', ys, k1, rfl, k3⟩ := k
  exact icmp_spec w x y neg neg' xs ys h1 k1 (by omega) (by omega)
theorem neg_dn (h : Dn w x a) : Calls Try.prog 98 #[x] w (Ret fun r w' => Ext w w' ∧ Can w' r (-a)) := by
  obtain ⟨neg, xs, h1, rfl, h3⟩ := h
  exact neg_spec w x neg xs h1 (by omega)
theorem normalize_dn {base : Nat} (h : Dn w x a) (hb : base ≤ w.heap.size) : Calls Try.prog 79 #[x] w (Ret fun r w' => Ext w w' ∧ CanO base w' r a) := by
  obtain ⟨neg, xs, h1, rfl, h3⟩ := h
  refine (normalize_spec w x neg xs h1 (by omega)).mono ?_
  rintro e w' ⟨r, rfl, hx, hr⟩
  exact ⟨r, rfl, hx, hr.mono hb⟩
theorem add_dn (h : Dn w x a) (k : Dn w y b) : Calls Try.prog 114 #[x, y] w (Ret fun r w' => Ext w w' ∧ Can w' r (a + b)) := by
  obtain ⟨neg, xs, h1, rfl, h3⟩ := h
  obtain ⟨neg', ys, k1, rfl, k3⟩ := k
  exact add_spec w x y neg neg' xs ys h1 k1 (by omega) (by omega)
theorem mul_dn (h : Dn w x a) (k : Dn w y b) : Calls Try.prog 101 #[x, y] w (Ret fun r w' => Ext w w' ∧ Can w' r (a * b)) := by
  obtain ⟨neg, xs, h1, rfl, h3⟩ := h
  obtain ⟨neg', ys, k1, rfl, k3⟩ := k
  exact mul_spec w x y neg neg' xs ys h1 k1 (by omega) (by omega)
theorem divMod_dn {base : Nat} (h : Dn w x a) (k : Dn w y b) (hb : base ≤ w.heap.size) : Calls Try.prog 65 #[x, y] w (Ret fun r w' => Ext w w' ∧ DivV base w' r a b) := by
  obtain ⟨neg, xs, h1, rfl, h3⟩ := h
  obtain ⟨neg', ys, k1, rfl, k3⟩ := k
  refine (divMod_spec w x y neg neg' xs ys h1 k1 (by omega) (by omega)).mono ?_
  rintro e w' ⟨r, rfl, hx, hr1, hr2⟩
  refine ⟨r, rfl, hx, hr1, fun h0 => ?_⟩
  obtain ⟨q, m, e, hq, hm⟩ := hr2 h0
  exact ⟨q, m, e, hq.mono hb, hm.mono hb⟩
theorem gcd_dn (h : Dn w x a) (k : Dn w y b) : Calls Try.prog 89 #[x, y] w (Ret fun r w' => Ext w w' ∧ Can w' r ((Nat.gcd a.natAbs b.natAbs : Nat) : Int)) := by
  obtain ⟨neg, xs, h1, rfl, h3⟩ := h
  obtain ⟨neg', ys, k1, rfl, k3⟩ := k
  have := igcd_spec w x y neg neg' xs ys h1 k1 (by omega) (by omega)
  rw [sg_abs, sg_abs]
  exact this
theorem sqrt_dn (h : Dn w x a) : Calls Try.prog 68 #[x] w (Ret fun r w' => Ext w w' ∧ SqrtV w' r a) := by
  obtain ⟨neg, xs, h1, rfl, h3⟩ := h
  exact isqrt_spec w x neg xs h1 (by omega)
theorem format_dn (h : Dn w x a) : Calls Try.prog 21 #[x] w (Ret fun r w' => Ext w w' ∧ r = strV (fmtI a)) := by
  obtain ⟨neg, xs, h1, rfl, h3⟩ := h
  exact format_spec w x neg xs h1 (by omega)
end

theorem DivV.rg {base : Nat} {T : Nat → Prop} {w w' : World} {r : Value} {a b : Int} (h : DivV base w r a b) (hR : Rg Try.prog T w w') : DivV base w' r a b := by
  refine ⟨h.1, fun h0 => ?_⟩
  obtain ⟨q, m, e, hq, hm⟩ := h.2 h0
  exact ⟨q, m, e, hq.rg hR, hm.rg hR⟩
theorem MonoR.divV (base : Nat) (a b : Int) : MonoR Try.prog (fun v w => DivV base w v a b) := fun _ _ _ hR h => h.rg hR

end Go.Qf

/- General steps for laws: structs in variables, order of integers. -/
namespace Go.Qf
open Go Go.RowKit Go.Proofs
set_option maxRecDepth 20000

theorem b8_lit (bs : List Nat) (h : bs.all (fun b => decide (b < 256)) = true) : B8 bs := fun b hb => by
  have := List.all_eq_true.1 h b hb
  simpa using this

theorem strV_lit1 (b : UInt8) : (Value.string ⟨#[b]⟩) = strV [b.toNat] := by simp [strV, strB]

/-- A struct that a call has made, stored into a variable. -/
theorem StL.setCan {base n : Nat} {E : List (Nat × Value)} {w w0 : World} {ops : Array Oper} {rest : List Oper} {Q : Exit → Act → World → Prop} {t s : Nat} {ty : TypeId} {pos : String} {af : Array Edge} {b : Nat} {C : List Value} {v : Value} {a : Int}
    (ht : look E t = some (.pointer (some ⟨b, 0, none⟩))) (hs : look E s = some v) (hb : Blk 25 w b C) (hC : C.length = 2) (hv : CanO base w v a) (hx : Ext w0 w) (hb0 : w0.heap.size ≤ b)
    (next : ∀ w', Blk 25 w' b v.cells.toList → Upd b w w' → CanO base w' v a → Ext w0 w' → StL Try.prog n E w' ops rest Q) :
    StL Try.prog n E w ops (⟨none, .store 25 (.tmp t) (.tmp s), ty, pos, af, none⟩ :: rest) Q := by
  refine StL.retCan ht hs hb hC hv hx hb0 ?_
  intro w4 cs hcs hl hb4 hu4 hx4
  refine next w4 ?_ hu4 (hv.upd hu4 ⟨_, hb⟩) hx4
  rw [hcs]
  simpa [Value.cells] using hb4

theorem CanO.agg {base : Nat} {w : World} {v : Value} {a : Int} (h : CanO base w v a) : v = .agg v.cells := by
  obtain ⟨p, cap, rfl, _⟩ := h
  rfl

/-- A variable that holds a canonical struct, read. -/
theorem RunsTo.loadCan {base n : Nat} {E : List (Nat × Value)} {w wv : World} {d : Option Tmp} {x : Operand} {ty : TypeId} {pos : String} {af : Array Edge} {g : Option (Nat × Bool)} {b : Nat} {v : Value} {a : Int} (hx : ov E x = some (.pointer (some ⟨b, 0, none⟩))) (hb : Blk 25 w b v.cells.toList) (hv : CanO base wv v a) :
    RunsTo Try.prog n ⟨d, .load 25 x, ty, pos, af, g⟩ E w v :=
  RunsTo.loadInt hx hb hv.two.1 (by simpa using hv.agg)

/-- A struct with its own limbs. -/
def DenO (base : Nat) (w : World) (v : Value) (neg : Bool) (xs : List Nat) : Prop := ∃ p cap, v = IntV neg (.slice p xs.length cap) ∧ SlO base w (.slice p xs.length cap) xs

theorem DenO.den {base : Nat} {w : World} {v : Value} {neg : Bool} {xs : List Nat} (h : DenO base w v neg xs) : Den w v neg xs := by
  obtain ⟨p, cap, hv, hs⟩ := h
  exact ⟨p, cap, hv, hs.sl⟩

theorem DenO.ext {base : Nat} {w w' : World} {v : Value} {neg : Bool} {xs : List Nat} (h : DenO base w v neg xs) (hx : Ext w w') : DenO base w' v neg xs := by
  obtain ⟨p, cap, hv, hs⟩ := h
  exact ⟨p, cap, hv, hs.ext hx⟩

theorem DenO.rg {base : Nat} {T : Nat → Prop} {w w' : World} {v : Value} {neg : Bool} {xs : List Nat} (h : DenO base w v neg xs) (hR : Rg Try.prog T w w') : DenO base w' v neg xs := by
  obtain ⟨p, cap, hv, hs⟩ := h
  exact ⟨p, cap, hv, hs.rg hR⟩

theorem MonoR.denO (base : Nat) (neg : Bool) (xs : List Nat) : MonoR Try.prog (fun v w => DenO base w v neg xs) := fun _ _ _ hR h => h.rg hR

theorem DenO.upd {base : Nat} {w w' : World} {v : Value} {neg : Bool} {xs : List Nat} {b : Nat} (h : DenO base w v neg xs) (hu : Upd b w w') (hb : ∃ C, Blk 25 w b C) : DenO base w' v neg xs := by
  obtain ⟨p, cap, hv, hs⟩ := h
  obtain ⟨C, hC⟩ := hb
  exact ⟨p, cap, hv, Own.updT hs.1 hu hC (by decide), hs.2⟩

theorem cmpI_swap (a b : Int) : cmpI b a = - cmpI a b := by
  unfold cmpI
  repeat' split
  all_goals omega

theorem cmpI_self (a : Int) : cmpI a a = 0 := by
  unfold cmpI
  rw [if_neg (by omega), if_neg (by omega)]

theorem cmpI_bound (a b : Int) : -1 ≤ cmpI a b ∧ cmpI a b ≤ 1 := by
  unfold cmpI
  split
  · omega
  · split <;> omega

/-- The law's three arguments in their variables, all short. -/
theorem cmp_eq0 {w : World} {x y : Value} {a b : Int} (h : Dn w x a) (k : Dn w y b) (e : a = b) : Calls Try.prog 88 #[x, y] w (Ret fun r w' => Ext w w' ∧ r = .int .i64 0) := by
  have := cmp_dn h k
  rwa [e, cmpI_self] at this

theorem cmpI_add (a b c : Int) : cmpI (a + c) (b + c) = cmpI a b := by
  unfold cmpI
  repeat' split
  all_goals omega

theorem sign_sub (a b : Int) : signI (a - b) = cmpI a b := by
  unfold signI cmpI
  repeat' split
  all_goals omega

theorem sz_den {w : World} {v : Value} {neg : Bool} {xs : List Nat} (h : Den w v neg xs) : sz (sg neg (val xs)) ≤ xs.length := by
  unfold sz; rw [sg_abs]; exact limbs_length_le xs h.lim

theorem DenO.two {base : Nat} {w : World} {v : Value} {neg : Bool} {xs : List Nat} (h : DenO base w v neg xs) : v.cells.toList.length = 2 ∧ (∀ u ∈ v.cells.toList, u.oneCell' = true) ∧ v = .agg v.cells := by
  obtain ⟨p, cap, rfl, _⟩ := h
  exact ⟨rfl, by simp [IntV, Value.cells, Value.oneCell'], rfl⟩

theorem StL.setDen {base n : Nat} {E : List (Nat × Value)} {w w0 : World} {ops : Array Oper} {rest : List Oper} {Q : Exit → Act → World → Prop} {t s : Nat} {ty : TypeId} {pos : String} {af : Array Edge} {b : Nat} {C : List Value} {v : Value} {neg : Bool} {xs : List Nat}
    (ht : look E t = some (.pointer (some ⟨b, 0, none⟩))) (hs : look E s = some v) (hb : Blk 25 w b C) (hC : C.length = 2) (hv : DenO base w v neg xs) (hx : Ext w0 w) (hb0 : w0.heap.size ≤ b)
    (next : ∀ w', Blk 25 w' b v.cells.toList → Upd b w w' → DenO base w' v neg xs → Ext w0 w' → StL Try.prog n E w' ops rest Q) :
    StL Try.prog n E w ops (⟨none, .store 25 (.tmp t) (.tmp s), ty, pos, af, none⟩ :: rest) Q := by
  refine StL.step0 rfl rfl (OpR.storeAll TBok rfl rfl ht hs hv.two.1 hC hv.two.2.1 hb) ?_
  rintro _ w' ⟨hb', hu, _⟩
  exact next w' hb' hu (hv.upd hu ⟨_, hb⟩) (hx.then_upd hu hb0)

theorem RunsTo.loadDen {base n : Nat} {E : List (Nat × Value)} {w wv : World} {d : Option Tmp} {x : Operand} {ty : TypeId} {pos : String} {af : Array Edge} {g : Option (Nat × Bool)} {b : Nat} {v : Value} {neg : Bool} {xs : List Nat} (hx : ov E x = some (.pointer (some ⟨b, 0, none⟩))) (hb : Blk 25 w b v.cells.toList) (hv : DenO base wv v neg xs) :
    RunsTo Try.prog n ⟨d, .load 25 x, ty, pos, af, g⟩ E w v :=
  RunsTo.loadInt hx hb hv.two.1 (by simpa using hv.two.2.2)

/-- What a division has made, laid into two variables. -/
theorem StL.setTwo {base n : Nat} {E : List (Nat × Value)} {w w0 : World} {ops : Array Oper} {rest : List Oper} {Q : Exit → Act → World → Prop} {d1 d2 s1 s2 : Nat} {ty1 ty2 ty3 ty4 : TypeId} {p1 p2 p3 p4 : String} {a1 a2 a3 a4 : Array Edge} {u v : Value} {x y : Int}
    (hn1 : Nat.blt d1 n = true) (hn2 : Nat.blt d2 n = true) (hne : Nat.beq d2 d1 = false) (hs1 : ∀ p q, look ((d2, q) :: (d1, p) :: E) s1 = some u) (hs2 : ∀ p q, look ((d2, q) :: (d1, p) :: E) s2 = some v) (hu : CanO base w u x) (hv : CanO base w v y) (hx : Ext w0 w)
    (next : ∀ b1 b2 w', b1 ≠ b2 → w.heap.size ≤ b1 → w.heap.size ≤ b2 → Ext w w' → Blk 25 w' b1 u.cells.toList → Blk 25 w' b2 v.cells.toList → CanO base w' u x → CanO base w' v y → Ext w0 w' → StL Try.prog n ((d2, .pointer (some ⟨b2, 0, none⟩)) :: (d1, .pointer (some ⟨b1, 0, none⟩)) :: E) w' ops rest Q) :
    StL Try.prog n E w ops (⟨some d1, .alloc 25, ty1, p1, a1, none⟩ :: ⟨some d2, .alloc 25, ty2, p2, a2, none⟩ :: ⟨none, .store 25 (.tmp d1) (.tmp s1), ty3, p3, a3, none⟩ :: ⟨none, .store 25 (.tmp d2) (.tmp s2), ty4, p4, a4, none⟩ :: rest) Q := by
  refine StL.step rfl rfl hn1 (OpR.alloc TBok rfl) ?_
  rintro _ w5 ⟨rfl, hb5, hx5, hz5⟩
  refine StL.step rfl rfl hn2 (OpR.alloc TBok rfl) ?_
  rintro _ w6 ⟨rfl, hb6, hx6, hz6⟩
  have hx56 := hx5.trans hx6
  have hl1 : look ((d2, Value.pointer (some ⟨w5.heap.size, 0, none⟩)) :: (d1, .pointer (some ⟨w.heap.size, 0, none⟩)) :: E) d1 = some (.pointer (some ⟨w.heap.size, 0, none⟩)) := by
    rw [look_cons_ne _ _ (fun e => by subst e; simp at hne), look_cons_self]
  refine StL.setCan hl1 (hs1 _ _) (hb5.ext hx6) rfl (hu.ext hx56) hx56 (Nat.le_refl _) ?_
  intro w7 hS5 hu7 hu7c hx7
  have hb6' := hb6.upd hu7 (by omega)
  refine StL.setCan (look_cons_self _ _ _) (hs2 _ _) hb6' rfl (CanO.upd (hv.ext hx56) hu7 ⟨_, hb5.ext hx6⟩) hx7 (by omega) ?_
  intro w8 hS6 hu8 hv8 hx8
  exact next _ _ w8 (by omega) (Nat.le_refl _) (by omega) hx8 (hS5.upd hu8 (by omega)) hS6 (CanO.upd hu7c hu8 ⟨_, hb6'⟩) hv8 (hx.trans hx8)

theorem root_eq {m x y : Nat} (h : IsRoot m x) (hy1 : y * y ≤ m) (hy2 : m < (y + 1) * (y + 1)) : x = y := by
  obtain ⟨h1, h2⟩ := h
  rcases Nat.lt_trichotomy x y with hlt | heq | hgt
  · have := Nat.mul_le_mul (show x + 1 ≤ y from hlt) (show x + 1 ≤ y from hlt)
    omega
  · exact heq
  · have := Nat.mul_le_mul (show y + 1 ≤ x from hgt) (show y + 1 ≤ x from hgt)
    omega

theorem SqrtV.rooted {w : World} {r : Value} {a : Int} {y : Nat} (h : SqrtV w r a) (h0 : 0 ≤ a) (hy1 : y * y ≤ a.natAbs) (hy2 : a.natAbs < (y + 1) * (y + 1)) : ∃ v, r = .tuple #[v, .bool true] ∧ Can w v (y : Int) := by
  obtain ⟨v, x, e, hr, hv⟩ := h.2 h0
  have := root_eq hr hy1 hy2
  subst this
  exact ⟨v, e, hv⟩

/-- A new variable with what a call has made. -/
theorem StL.setNew {base n : Nat} {E : List (Nat × Value)} {w w0 : World} {ops : Array Oper} {rest : List Oper} {Q : Exit → Act → World → Prop} {d s : Nat} {ty1 ty2 : TypeId} {p1 p2 : String} {a1 a2 : Array Edge} {u : Value} {x : Int}
    (hn : Nat.blt d n = true) (hs : ∀ p, look ((d, p) :: E) s = some u) (hu : CanO base w u x) (hx : Ext w0 w)
    (next : ∀ b w', w.heap.size ≤ b → Ext w w' → Blk 25 w' b u.cells.toList → CanO base w' u x → Ext w0 w' → StL Try.prog n ((d, .pointer (some ⟨b, 0, none⟩)) :: E) w' ops rest Q) :
    StL Try.prog n E w ops (⟨some d, .alloc 25, ty1, p1, a1, none⟩ :: ⟨none, .store 25 (.tmp d) (.tmp s), ty2, p2, a2, none⟩ :: rest) Q := by
  refine StL.step rfl rfl hn (OpR.alloc TBok rfl) ?_
  rintro _ w5 ⟨rfl, hb5, hx5, hz5⟩
  refine StL.setCan (look_cons_self _ _ _) (hs _) hb5 rfl (hu.ext hx5) hx5 (Nat.le_refl _) ?_
  intro w7 hS5 hu7 hu7c hx7
  exact next _ w7 (Nat.le_refl _) hx7 hS5 hu7c (hx.trans hx7)

section
variable {P : Program} {T : List (Nat × TI)} {n : Nat} {E : List (Nat × Value)} {w : World}

theorem RunsTo.remT {d : Option Tmp} {t t2 : TypeId} {x y : Operand} {ty : TypeId} {pos : String} {af : Array Edge} {g : Option (Nat × Bool)} {k : IntKind} {m s : Int} (hx : ov E x = some (.int k m)) (hy : ov E y = some (.int k s)) (hs : s ≠ 0) :
    RunsTo P n ⟨d, .binOp .rem t x y t2, ty, pos, af, g⟩ E w (.int k (m.tmod s)) := by
  intro a ha
  have e1 := ha.eval hx
  have e2 := ha.eval hy
  generalize a.eval = ρ at e1 e2
  simp [execOp, e1, e2, eqGuard, binOp, Op.intDiv, hs, go_sem]

theorem OpR.five (hT : TblOk P T) {d : Option Tmp} {t : TypeId} {x0 x1 x2 x3 x4 : Operand} {ty : TypeId} {pos : String} {af : Array Edge} {g : Option (Nat × Bool)} {et : TypeId} {s1 s2 : Nat} {z : Value} {ti : TI} {k : IntKind} {m0 m1 m2 m3 m4 : Int}
    (ht : lookT T t = some ⟨.slice et, s1, s2, z⟩) (hte : lookT T et = some ti) (hsz : ti.size = 1) (h0 : ov E x0 = some (.int k m0)) (h1 : ov E x1 = some (.int k m1)) (h2 : ov E x2 = some (.int k m2)) (h3 : ov E x3 = some (.int k m3)) (h4 : ov E x4 = some (.int k m4)) :
    OpR P n ⟨d, .buildSlice t 5 #[(0, x0), (1, x1), (2, x2), (3, x3), (4, x4)], ty, pos, af, g⟩ E w (fun u w' => u = .slice (some ⟨w.heap.size, 0, none⟩) 5 5 ∧ Blk et w' w.heap.size ([m0, m1, m2, m3, m4].map (Value.int k)) ∧ Ext w w' ∧ w'.heap.size = w.heap.size + 1) := by
  intro a ha Q K hK
  obtain ⟨_, inf, hi, hsize, hby, hzero⟩ := hT et ti hte
  have e0 := ha.eval h0
  have e1 := ha.eval h1
  have e2 := ha.eval h2
  have e3 := ha.eval h3
  have e4 := ha.eval h4
  have hrun : (execOp a.eval ⟨d, .buildSlice t 5 #[(0, x0), (1, x1), (2, x2), (3, x3), (4, x4)], ty, pos, af, g⟩).run P w = .ok (.value (.slice (some ⟨w.heap.size, 0, none⟩) 5 5)) (w.alloc (.cells #[.int k m0, .int k m1, .int k m2, .int k m3, .int k m4] et (0, 0))) := by
    generalize a.eval = ρ at e0 e1 e2 e3 e4
    simp [execOp, Instr.buildSlice, e0, e1, e2, e3, e4, run_underlying_T hT ht, run_sizeOf_T hT hte, hsz, zeroValue, run_typeInfo hi, hzero, Instr.fill, newRow, go_sem]
  unfold Oper.wp
  rw [hrun, Oper.upon_value]
  exact hK _ _ ⟨rfl, blk_alloc _ _ _, ext_alloc _ _, size_alloc1 _ _⟩

end

end Go.Qf

/- The arguments of a law, opened. -/
namespace Go.Qf
open Go Go.RowKit Go.Proofs Go.ChangeShapes Go.WideShapes Go.Joins
set_option maxRecDepth 20000

theorem laidOut : laidOutB Try.prog = true := by kernel_rfl

section
variable {H : Type} {enc : TypeId × Value → H} {W : World} {base : Nat} {spare : Nat → Bool} {held : Bool} {r : Reach} {b0 : Nat} {v : Value} {d : DataW H} {p : List MemPlace}

theorem wf_u32 {n : Int} (h : (Lit.int .u32 n).wf = true) : ∃ m : Nat, n = m ∧ m < 4294967296 := by
  have := bounds_u32 h
  exact ⟨n.toNat, by omega, by omega⟩

/-- A slice of uint32 that reads. -/
theorem open_limbs {fuel : Nat} {c : Value} {y : DataW H × List MemPlace} (h : DataW.trod enc Try.prog W base spare held fuel 23 [c] = some y) : ∃ q cap xs, c = .slice q xs.length cap ∧ Sl W (.slice q xs.length cap) xs ∧ xs.length ≤ maxLen := by
  rcases open_ints Try.underlying23 Try.underlying41 (by kernel_rfl) h with ⟨hcs, _⟩ | ⟨a, len, cap, zs, hcs, _, hl, hm, hz, _, hcell, hwz⟩
  · simp only [List.cons.injEq, and_true] at hcs
    subst hcs
    exact ⟨none, 0, [], rfl, ⟨⟨none, 0, rfl, Nat.le_refl _, fun _ => rfl, fun a ha => by cases ha⟩, Lim.nil⟩, Nat.zero_le _⟩
  · simp only [List.cons.injEq, and_true] at hcs
    subst hcs
    have hlz : len ≤ zs.length := by rw [hz]; split <;> omega
    have hall : ∀ z ∈ zs, ∃ m : Nat, z = m ∧ m < 4294967296 := fun z hz => wf_u32 (hwz z hz)
    have hlen : ((zs.take len).map Int.toNat).length = len := by simp; omega
    refine ⟨some a, cap, (zs.take len).map Int.toNat, by rw [hlen], ?_, by omega⟩
    rw [hlen]
    refine ⟨⟨some a, cap, by simp; omega, by simp; omega, fun e => (by cases e), ?_⟩, ?_⟩
    · intro a' ha' i c hi
      cases ha'
      have hi2 : i < len := by
        have := (List.getElem?_eq_some_iff.1 hi).1
        simp at this; omega
      have := hcell i (by omega)
      rw [this]
      have hzi : zs[i]? = some zs[i] := by simp
      obtain ⟨m, hm1, hm2⟩ := hall zs[i] (List.mem_of_getElem? hzi)
      simp only [List.getElem?_map, List.getElem?_take_of_lt hi2, hzi, Option.map_some, Option.some.injEq] at hi
      rw [← hi]
      simp only [List.getD_eq_getElem?_getD, hzi, Option.getD_some, hm1]
      simp
    · intro x hx
      simp only [List.mem_map] at hx
      obtain ⟨z, hz1, rfl⟩ := hx
      obtain ⟨m, rfl, hm2⟩ := hall z (List.mem_of_mem_take hz1)
      simpa using hm2

theorem open_Int (hv : Value.okWide Try.prog W r b0 25 v) (h : DataW.Trod enc Try.prog W base spare held 25 v d p) : ∃ neg xs, Den W v neg xs ∧ xs.length ≤ maxLen := by
  obtain ⟨c0, c1, y0, y1, m, rfl, _, _, hy0, hy1⟩ := open_agg2 Try.underlying25 (by kernel_rfl) (by kernel_rfl) hv h
  obtain ⟨b, e0, _⟩ := DataW.trod_bool Try.underlying4 hy0
  simp only [List.cons.injEq, and_true] at e0
  subst e0
  obtain ⟨q, cap, xs, rfl, hs, hl⟩ := open_limbs hy1
  exact ⟨b, xs, ⟨q, cap, rfl, hs⟩, hl⟩

theorem open_str (hv : Value.okWide Try.prog W r b0 9 v) (h : DataW.Trod enc Try.prog W base spare held 9 v d p) : ∃ bs, B8 bs ∧ v = strV bs ∧ bs.length ≤ maxLen := by
  obtain ⟨s, rfl, _, _, hs⟩ := Go.ChangeMaps.open_string Try.underlying9 hv h
  obtain ⟨bs, h8, rfl⟩ := strB_surj s
  exact ⟨bs, h8, rfl, by rwa [strB_size] at hs⟩

theorem open_i64 {t : TypeId} (ht : Try.prog.underlying t = some (.int .i64)) (hv : Value.okWide Try.prog W r b0 t v) (h : DataW.Trod enc Try.prog W base spare held t v d p) : ∃ a, v = .int .i64 a ∧ -9223372036854775808 ≤ a ∧ a ≤ 9223372036854775807 := by
  obtain ⟨a, rfl, _, _, hw⟩ := open_int ht hv h
  exact ⟨a, rfl, bounds_i64 hw⟩

theorem open_u8 (hv : Value.okWide Try.prog W r b0 5 v) (h : DataW.Trod enc Try.prog W base spare held 5 v d p) : ∃ a : Nat, v = u8 a ∧ a < 256 := by
  obtain ⟨a, rfl, _, _, hw⟩ := open_int Try.underlying5 hv h
  have := bounds_u8 hw
  exact ⟨a.toNat, by simp [u8]; omega, by omega⟩

theorem open_B (hv : Value.okWide Try.prog W r b0 4 v) (h : DataW.Trod enc Try.prog W base spare held 4 v d p) : ∃ a, v = .bool a := by
  obtain ⟨fuel, hf⟩ := h
  have hv2 : ∃ a, v = .bool a := by
    unfold Value.okWide Cell.okWide Cell.ok at hv
    rw [Try.underlying4] at hv
    cases v <;> simp at hv
    exact ⟨_, rfl⟩
  exact hv2
end
end Go.Qf

/- Three closed facts on the program's head, without running the kernel over its long head row. -/
namespace Go.Qf
open Go Go.Proofs

theorem strip_cut (rest : List (List Char)) : stripLifts liftWords ("cut".toList :: rest) = ([], "cut".toList :: rest) := by kernel_rfl
theorem cutGc : ("cut".toList == "gc".toList) = false := by kernel_rfl
theorem cutSpec : ("cut".toList == "spec".toList) = false := by kernel_rfl
theorem cutCarried : ("cut".toList == "carried".toList) = false := by kernel_rfl
theorem cutCut : ("cut".toList == "cut".toList) = true := by kernel_rfl

section
variable {P : Program} {rest : List (List Char)} (h : behindMainWord (wordsSigns P.initOrder.toList) = "cut".toList :: rest)
include h

theorem make_of : P.make = some .cut := by
  unfold Program.make
  rw [h]
  simp only [cutGc, cutSpec, cutCut, Bool.or_self, Bool.true_or, if_true, Bool.false_eq_true, if_false]

theorem heads_of : P.headLifts = [] := by
  unfold Program.headLifts
  rw [h]
  simp only [strip_cut, ite_self]

theorem final_of : P.liftsFinal = false := by
  unfold Program.liftsFinal
  rw [heads_of h]
  rw [h]
  simp only [List.head?_cons, Option.some_beq_some, cutCarried, Bool.false_and, List.contains_nil, Bool.or_false]

theorem enter_of (h1 : P.laysLater = false) (h2 : P.bearsReflect = false) (h3 : P.doorFits [] = true) : P.mayEnter = true := by
  unfold Program.mayEnter
  rw [h]
  simp only [strip_cut, h1, h2, h3, List.head?_cons, Option.some_beq_some, cutCut, Bool.not_false, Bool.or_true, Bool.and_true, List.contains_nil]
end

theorem words_of {P : Program} (h : (behindMainWord (wordsSigns P.initOrder.toList)).head? = some "cut".toList) : ∃ rest, behindMainWord (wordsSigns P.initOrder.toList) = "cut".toList :: rest := by
  generalize behindMainWord (wordsSigns P.initOrder.toList) = ws at h
  cases ws with
  | nil => cases h
  | cons c r => exact ⟨r, by simp only [List.head?_cons, Option.some.injEq] at h; rw [h]⟩

set_option maxRecDepth 100000 in
theorem wordsCut : (behindMainWord (wordsSigns Try.prog.initOrder.toList)).head? = some "cut".toList := by
  rw [show Try.prog.initOrder.toList = _ from String.toList_ofList]
  kernel_rfl

theorem laysNot : Try.prog.laysLater = false := by kernel_rfl
theorem reflNot : Try.prog.bearsReflect = false := by kernel_rfl
theorem doorOk : Try.prog.doorFits [] = true := by kernel_rfl
theorem enterOk : Try.prog.mayEnter = true := by
  obtain ⟨rest, h⟩ := words_of wordsCut
  exact enter_of h laysNot reflNot doorOk
theorem finalNo : Try.prog.liftsFinal = false := by
  obtain ⟨rest, h⟩ := words_of wordsCut
  exact final_of h
theorem makeCut : Try.prog.make = some .cut := by
  obtain ⟨rest, h⟩ := words_of wordsCut
  exact make_of h

end Go.Qf

/- Rational numbers: numerators, denominators, sizes, order. -/
namespace Go.Qf
open Go Go.RowKit Go.Proofs

theorem gcdC (a b : Int) : ((Int.gcd b a : Nat) : Int) = ((Nat.gcd a.natAbs b.natAbs : Nat) : Int) := by rw [Int.gcd_comm]; rfl
theorem gcd_dvd_l (a b : Int) : ((Nat.gcd a.natAbs b.natAbs : Nat) : Int) ∣ a := Int.ofNat_dvd_left.2 (Nat.gcd_dvd_left _ _)
theorem gcd_dvd_r (a b : Int) : ((Nat.gcd a.natAbs b.natAbs : Nat) : Int) ∣ b := Int.ofNat_dvd_left.2 (Nat.gcd_dvd_right _ _)
theorem gcd_ne {a b : Int} (hb : b ≠ 0) : Nat.gcd a.natAbs b.natAbs ≠ 0 := by
  have := Nat.gcd_pos_of_pos_right a.natAbs (show 0 < b.natAbs by omega)
  omega

theorem num_pos {a b : Int} (hb : 0 < b) : (Rat.divInt a b).num = a / ((Nat.gcd a.natAbs b.natAbs : Nat) : Int) := by
  rw [Rat.num_divInt, Int.sign_eq_one_of_pos hb, Int.one_mul, gcdC]
theorem num_neg' {a b : Int} (hb : b < 0) : (Rat.divInt a b).num = a / -((Nat.gcd a.natAbs b.natAbs : Nat) : Int) := by
  rw [Rat.num_divInt, Int.sign_eq_neg_one_of_neg hb, gcdC, Int.ediv_neg, Int.neg_mul, Int.one_mul, Int.neg_ediv_of_dvd (gcd_dvd_l a b)]
theorem den_pos' {a b : Int} (hb : 0 < b) : ((Rat.divInt a b).den : Int) = b / ((Nat.gcd a.natAbs b.natAbs : Nat) : Int) := by
  rw [Rat.den_divInt, if_neg (by omega), Int.natCast_ediv, gcdC, Int.natAbs_of_nonneg (by omega)]
theorem den_neg' {a b : Int} (hb : b < 0) : ((Rat.divInt a b).den : Int) = b / -((Nat.gcd a.natAbs b.natAbs : Nat) : Int) := by
  have e : ((b.natAbs : Nat) : Int) = -b := by omega
  rw [Rat.den_divInt, if_neg (by omega), Int.natCast_ediv, gcdC, e, Int.ediv_neg, Int.neg_ediv_of_dvd (gcd_dvd_r a b)]
/-- In lowest terms, the sign of the divisor being that of the denominator. -/
theorem lowest_num {a b : Int} (hb : b ≠ 0) : a / (if b < 0 then -((Nat.gcd a.natAbs b.natAbs : Nat) : Int) else ((Nat.gcd a.natAbs b.natAbs : Nat) : Int)) = (Rat.divInt a b).num := by
  split
  · rw [num_neg' (by omega)]
  · rw [num_pos (by omega)]
theorem lowest_den {a b : Int} (hb : b ≠ 0) : b / (if b < 0 then -((Nat.gcd a.natAbs b.natAbs : Nat) : Int) else ((Nat.gcd a.natAbs b.natAbs : Nat) : Int)) = ((Rat.divInt a b).den : Int) := by
  split
  · rw [den_neg' (by omega)]
  · rw [den_pos' (by omega)]

theorem den_pos (q : Rat) : (0 : Int) < q.den := by
  have := q.den_nz
  omega

/-- How many limbs the parts of a rational number have at most. -/
def rz (q : Rat) : Nat := max (sz q.num) (sz (q.den : Int))
theorem rz_num (q : Rat) : sz q.num ≤ rz q := Nat.le_max_left _ _
theorem rz_den (q : Rat) : sz (q.den : Int) ≤ rz q := Nat.le_max_right _ _
theorem sz_1 : sz 1 = 1 := by decide +kernel
theorem rz_divInt (a b : Int) : rz (Rat.divInt a b) ≤ max (max (sz a) (sz b)) 1 := by
  have h1 : sz (Rat.divInt a b).num ≤ sz a := by
    rw [Rat.num_divInt]
    refine Nat.le_trans (sz_div _ _) (sz_le_nat ?_)
    rw [Int.natAbs_mul]
    rcases Int.lt_trichotomy b 0 with h | h | h
    · rw [Int.sign_eq_neg_one_of_neg h]; simp
    · subst h; simp
    · rw [Int.sign_eq_one_of_pos h]; simp
  have h2 : sz ((Rat.divInt a b).den : Int) ≤ max (sz b) 1 := by
    rw [Rat.den_divInt]
    split
    · have h1 : sz ((1 : Nat) : Int) = 1 := by decide +kernel
      omega
    · have : sz (((b.natAbs / Int.gcd b a : Nat)) : Int) ≤ sz b := sz_nat_le (Nat.div_le_self _ _)
      omega
  unfold rz
  omega
theorem rz_add (p q : Rat) : rz (p + q) ≤ rz p + rz q + 1 := by
  rw [Rat.add_def', ← Rat.divInt_ofNat]
  have h := rz_divInt (p.num * q.den + q.num * p.den) ((p.den * q.den : Nat) : Int)
  have h1 := sz_add (p.num * q.den) (q.num * p.den)
  have h2 := sz_mul p.num q.den
  have h3 := sz_mul q.num p.den
  have h4 := sz_mul (p.den : Int) (q.den : Int)
  rw [← Int.natCast_mul] at h4
  have := rz_num p
  have := rz_num q
  have := rz_den p
  have := rz_den q
  omega
theorem rz_mul (p q : Rat) : rz (p * q) ≤ rz p + rz q + 1 := by
  rw [Rat.mul_def', ← Rat.divInt_ofNat]
  have h := rz_divInt (p.num * q.num) ((p.den * q.den : Nat) : Int)
  have h2 := sz_mul p.num q.num
  have h4 := sz_mul (p.den : Int) (q.den : Int)
  rw [← Int.natCast_mul] at h4
  have := rz_num p
  have := rz_num q
  have := rz_den p
  have := rz_den q
  omega
theorem rz_neg (q : Rat) : rz (-q) = rz q := by
  unfold rz
  rw [Rat.neg_num, Rat.neg_den, sz_neg]
theorem rz_sub (p q : Rat) : rz (p - q) ≤ rz p + rz q + 1 := by
  rw [Rat.sub_eq_add_neg]
  have := rz_add p (-q)
  rwa [rz_neg] at this
theorem rz_inv (q : Rat) : rz q⁻¹ ≤ max (rz q) 1 := by
  rw [Rat.inv_def]
  have h := rz_divInt (q.den : Int) q.num
  have := rz_num q
  have := rz_den q
  omega
theorem rz_int (a : Int) : rz (a : Rat) ≤ max (sz a) 1 := by
  unfold rz
  rw [Rat.num_intCast, Rat.den_intCast]
  have := sz_1
  simp only [Int.cast_ofNat_Int]
  omega

/-- The order of rational numbers. -/
def cmpR (p q : Rat) : Int := if p < q then -1 else if q < p then 1 else 0
theorem cmpR_cross (p q : Rat) : cmpI (p.num * q.den) (q.num * p.den) = cmpR p q := by
  unfold cmpI cmpR
  simp only [Rat.lt_iff]
theorem num_lt0 (q : Rat) : q.num < 0 ↔ q < 0 := by
  rw [Rat.lt_iff]; simp
theorem num_eq0 (q : Rat) : q.num = 0 ↔ q = 0 := Rat.num_eq_zero
theorem sign_num (q : Rat) : signI q.num = cmpR q 0 := by
  rw [← cmpR_cross]
  simp only [Rat.zero_num, Rat.zero_den, Int.zero_mul, Int.natCast_one, Int.mul_one]
  unfold signI cmpI
  repeat' split
  all_goals omega
theorem cmpR_sub (p q : Rat) : cmpR (p - q) 0 = cmpR p q := by
  unfold cmpR
  have h1 : p - q < 0 ↔ p < q := by
    rw [Rat.sub_lt_iff, Rat.zero_add]
  have h2 : 0 < p - q ↔ q < p := (Rat.lt_iff_sub_pos q p).symm
  simp only [h1, h2]
theorem sign_subR (p q : Rat) : signI (p - q).num = cmpR p q := by rw [sign_num, cmpR_sub]
theorem cmpR_add (p q r : Rat) : cmpR (p + r) (q + r) = cmpR p q := by
  unfold cmpR
  simp only [Rat.add_lt_add_right]
theorem cmpR_mul {p q r : Rat} (hr : 0 < r) : cmpR (p * r) (q * r) = cmpR p q := by
  unfold cmpR
  simp only [Rat.mul_lt_mul_right hr]
theorem cmpR_self (p : Rat) : cmpR p p = 0 := by
  unfold cmpR
  simp [Rat.lt_irrefl]
theorem cmpR_bound (p q : Rat) : -1 ≤ cmpR p q ∧ cmpR p q ≤ 1 := by
  unfold cmpR
  split
  · omega
  · split <;> omega
theorem signI_mul (a b : Int) : signI a * signI b = signI (a * b) := by
  unfold signI
  rcases Int.lt_trichotomy a 0 with ha | ha | ha <;> rcases Int.lt_trichotomy b 0 with hb | hb | hb
  · have := Int.mul_pos_of_neg_of_neg ha hb
    rw [if_pos ha, if_pos hb, if_neg (by omega), if_neg (by omega)]; rfl
  · subst hb; simp
  · have := Int.mul_neg_of_neg_of_pos ha hb
    rw [if_pos ha, if_neg (by omega), if_neg (by omega), if_pos (by omega)]; rfl
  · subst ha; simp
  · subst ha; simp
  · subst ha; simp
  · have := Int.mul_neg_of_pos_of_neg ha hb
    rw [if_pos hb, if_neg (by omega), if_neg (by omega), if_pos (by omega)]; rfl
  · subst hb; simp
  · have := Int.mul_pos ha hb
    rw [if_neg (by omega), if_neg (by omega), if_neg (show ¬ b < 0 by omega), if_neg (show ¬ b = 0 by omega), if_neg (by omega), if_neg (by omega)]; rfl
/-- The sign of a quotient, also of one by 0. -/
theorem sign_divInt (a b : Int) : signI a * signI b = signI (Rat.divInt a b).num := by
  rcases Int.lt_trichotomy b 0 with hb | hb | hb
  · have h1 := lowest_num (a := a) (b := b) (by omega)
    rw [if_pos hb] at h1
    have hg := gcd_ne (a := a) (b := b) (by omega)
    have hd := Int.ediv_mul_cancel (gcd_dvd_l a b)
    rw [Int.ediv_neg] at h1
    have e : signI a = signI (a / ((Nat.gcd a.natAbs b.natAbs : Nat) : Int)) * 1 := by
      have := signI_mul (a / ((Nat.gcd a.natAbs b.natAbs : Nat) : Int)) ((Nat.gcd a.natAbs b.natAbs : Nat) : Int)
      rw [hd] at this
      rw [← this]
      congr 1
      unfold signI
      rw [if_neg (by omega), if_neg (by omega)]
    rw [← h1, e]
    generalize a / ((Nat.gcd a.natAbs b.natAbs : Nat) : Int) = t
    unfold signI
    rw [if_pos hb]
    repeat' split
    all_goals omega
  · subst hb
    rw [Rat.divInt_zero]
    simp [signI]
  · have h1 := lowest_num (a := a) (b := b) (by omega)
    rw [if_neg (by omega)] at h1
    have hg := gcd_ne (a := a) (b := b) (by omega)
    have hd := Int.ediv_mul_cancel (gcd_dvd_l a b)
    have e : signI a = signI (a / ((Nat.gcd a.natAbs b.natAbs : Nat) : Int)) * 1 := by
      have := signI_mul (a / ((Nat.gcd a.natAbs b.natAbs : Nat) : Int)) ((Nat.gcd a.natAbs b.natAbs : Nat) : Int)
      rw [hd] at this
      rw [← this]
      congr 1
      unfold signI
      rw [if_neg (by omega), if_neg (by omega)]
    rw [← h1, e]
    unfold signI
    rw [if_neg (show ¬ b < 0 by omega), if_neg (show ¬ b = 0 by omega)]
    omega

theorem inv_pow (q : Rat) (n : Nat) : (q⁻¹) ^ n = (q ^ n)⁻¹ := by
  induction n with
  | zero => rw [Rat.pow_zero, Rat.pow_zero]; decide +kernel
  | succ n ih => rw [Rat.pow_succ, Rat.pow_succ, Rat.inv_mul_rev, ih, Rat.mul_comm]
theorem pow_divInt (q : Rat) (n : Nat) : Rat.divInt (q.num ^ n) ((q.den : Int) ^ n) = q ^ n := by
  have := Rat.num_divInt_den (q ^ n)
  rw [Rat.num_pow, Rat.den_pow] at this
  rw [← this]
  simp
theorem pow_divInt' (q : Rat) (n : Nat) : Rat.divInt ((q.den : Int) ^ n) (q.num ^ n) = (q⁻¹) ^ n := by
  rw [inv_pow, ← pow_divInt, Rat.inv_divInt]

end Go.Qf

/- Structs of rational numbers: how they lie in variables. -/
namespace Go.Qf
open Go Go.RowKit Go.Proofs
set_option maxRecDepth 20000

/-- A struct Int; a struct Rat and its parts. -/
def R2 (v : Value) : Prop := ∃ n s, v = IntV n s ∧ s.oneCell' = true
def R4 (v : Value) : Prop := ∃ n s m t, v = .agg #[.bool n, s, .bool m, t] ∧ s.oneCell' = true ∧ t.oneCell' = true
def nm (v : Value) : Value := .agg #[v.cells.getD 0 undef, v.cells.getD 1 undef]
def dm (v : Value) : Value := .agg #[v.cells.getD 2 undef, v.cells.getD 3 undef]
def mkR (x y : Value) : Value := .agg #[x.cells.getD 0 undef, x.cells.getD 1 undef, y.cells.getD 0 undef, y.cells.getD 1 undef]

theorem nm_mkR {x y : Value} (hx : R2 x) : nm (mkR x y) = x := by obtain ⟨n, s, rfl, _⟩ := hx; rfl
theorem dm_mkR {x y : Value} (hy : R2 y) : dm (mkR x y) = y := by obtain ⟨n, s, rfl, _⟩ := hy; rfl
theorem mkR_R4 {x y : Value} (hx : R2 x) (hy : R2 y) : R4 (mkR x y) := by
  obtain ⟨n, s, rfl, hs⟩ := hx
  obtain ⟨m, t, rfl, ht⟩ := hy
  exact ⟨n, s, m, t, rfl, hs, ht⟩
theorem R4.agg {v : Value} (h : R4 v) : v = .agg v.cells := by obtain ⟨n, s, m, t, rfl, _⟩ := h; rfl
theorem R4.len {v : Value} (h : R4 v) : v.cells.toList.length = 4 := by obtain ⟨n, s, m, t, rfl, _⟩ := h; rfl
theorem R4.ones {v : Value} (h : R4 v) : ∀ u ∈ v.cells.toList, u.oneCell' = true := by
  obtain ⟨n, s, m, t, rfl, hs, ht⟩ := h
  intro u hu
  simp only [Value.cells, List.mem_cons, List.not_mem_nil, or_false] at hu
  rcases hu with rfl | rfl | rfl | rfl
  · rfl
  · exact hs
  · rfl
  · exact ht
theorem R2.len {v : Value} (h : R2 v) : v.cells.toList.length = 2 := by obtain ⟨n, s, rfl, _⟩ := h; rfl
theorem CanO.r2 {base : Nat} {w : World} {v : Value} {a : Int} (h : CanO base w v a) : R2 v := by obtain ⟨p, cap, rfl, _⟩ := h; exact ⟨_, _, rfl, rfl⟩
theorem Dn.r2 {w : World} {v : Value} {a : Int} (h : Dn w v a) : R2 v := by obtain ⟨n, xs, ⟨p, cap, rfl, _⟩, _⟩ := h; exact ⟨_, _, rfl, rfl⟩
theorem R4.two {v : Value} (h : R4 v) : R2 (nm v) ∧ R2 (dm v) := by
  obtain ⟨n, s, m, t, rfl, hs, ht⟩ := h
  exact ⟨⟨n, s, rfl, hs⟩, m, t, rfl, ht⟩

/-- The canonical struct of a rational number; a struct that denotes one. -/
def CanR (base : Nat) (w : World) (v : Value) (q : Rat) : Prop := R4 v ∧ CanO base w (nm v) q.num ∧ CanO base w (dm v) (q.den : Int)
def DnR (w : World) (v : Value) (q : Rat) : Prop := R4 v ∧ ∃ a b, Dn w (nm v) a ∧ Dn w (dm v) b ∧ q = Rat.divInt a b

theorem CanR.mk {base : Nat} {w : World} {x y : Value} {q : Rat} (hx : CanO base w x q.num) (hy : CanO base w y (q.den : Int)) : CanR base w (mkR x y) q :=
  ⟨mkR_R4 hx.r2 hy.r2, by rw [nm_mkR hx.r2]; exact hx, by rw [dm_mkR hy.r2]; exact hy⟩
theorem DnR.mk {w : World} {x y : Value} {a b : Int} (hx : Dn w x a) (hy : Dn w y b) : DnR w (mkR x y) (Rat.divInt a b) :=
  ⟨mkR_R4 hx.r2 hy.r2, a, b, by rw [nm_mkR hx.r2]; exact hx, by rw [dm_mkR hy.r2]; exact hy, rfl⟩
theorem CanR.ext {base : Nat} {w w' : World} {v : Value} {q : Rat} (h : CanR base w v q) (hx : Ext w w') : CanR base w' v q := ⟨h.1, h.2.1.ext hx, h.2.2.ext hx⟩
theorem CanR.rg {base : Nat} {T : Nat → Prop} {w w' : World} {v : Value} {q : Rat} (h : CanR base w v q) (hR : Rg Try.prog T w w') : CanR base w' v q := ⟨h.1, h.2.1.rg hR, h.2.2.rg hR⟩
theorem MonoR.canR (base : Nat) (q : Rat) : MonoR Try.prog (fun v w => CanR base w v q) := fun _ _ _ hR h => h.rg hR
theorem DnR.ext {w w' : World} {v : Value} {q : Rat} (h : DnR w v q) (hx : Ext w w') : DnR w' v q := by
  obtain ⟨h4, a, b, ha, hb, e⟩ := h
  exact ⟨h4, a, b, ha.ext hx, hb.ext hx, e⟩
theorem CanR.dn {base : Nat} {w : World} {v : Value} {q : Rat} (h : CanR base w v q) (hz : rz q ≤ 1000000) : DnR w v q :=
  ⟨h.1, q.num, q.den, h.2.1.dn (Nat.le_trans (rz_num q) hz), h.2.2.dn (Nat.le_trans (rz_den q) hz), (Rat.num_divInt_den q).symm⟩

theorem CanO.updT {base : Nat} {w w' : World} {v : Value} {a : Int} {b : Nat} {t : TypeId} {C : List Value} (h : CanO base w v a) (hu : Upd b w w') (hb : Blk t w b C) (hne : 41 ≠ t) : CanO base w' v a := by
  obtain ⟨p, cap, hv, hs⟩ := h
  exact ⟨p, cap, hv, Own.updT hs.1 hu hb hne, hs.2⟩
theorem CanR.upd {base : Nat} {w w' : World} {v : Value} {q : Rat} {b : Nat} {t : TypeId} {C : List Value} (h : CanR base w v q) (hu : Upd b w w') (hb : Blk t w b C) (hne : 41 ≠ t) : CanR base w' v q :=
  ⟨h.1, h.2.1.updT hu hb hne, h.2.2.updT hu hb hne⟩

/-- The types whose values are such structs. -/
def RT (t : TypeId) : Bool := Nat.beq t 33 || Nat.beq t 81
theorem RT.look {t : TypeId} (h : RT t = true) : ∃ ti, lookT TB t = some ti ∧ isAggD ti.desc = true ∧ ti.size = 4 ∧ ti.zero.cells.toList.length = 4 ∧ 41 ≠ t := by
  unfold RT at h
  rw [Bool.or_eq_true] at h
  rcases h with h | h
  · have := Nat.eq_of_beq_eq_true h
    subst this
    exact ⟨_, rfl, rfl, rfl, rfl, by decide⟩
  · have := Nat.eq_of_beq_eq_true h
    subst this
    exact ⟨_, rfl, rfl, rfl, rfl, by decide⟩

section
variable {n : Nat} {E : List (Nat × Value)} {w : World} {d : Option Tmp} {x y : Operand} {ty : TypeId} {pos : String} {af : Array Edge} {g : Option (Nat × Bool)} {b : Nat} {e t : TypeId} {u v : Value}

theorem RunsTo.loadR (hT : RT t = true) (hx : ov E x = some (.pointer (some ⟨b, 0, none⟩))) (hb : Blk e w b v.cells.toList) (hv : R4 v) : RunsTo Try.prog n ⟨d, .load t x, ty, pos, af, g⟩ E w v := by
  obtain ⟨ti, ht, hag, h4, _⟩ := RT.look hT
  have := RunsTo.loadAgg (n := n) (d := d) (ty := ty) (pos := pos) (af := af) (g := g) TBok ht hag hx hb (cs := v.cells.toList) (by rw [h4, hv.len]; exact Nat.le_refl 4) (by rw [h4, List.drop_zero]; exact List.take_of_length_le (by rw [hv.len]; exact Nat.le_refl 4))
  rw [show Value.agg v.cells.toList.toArray = v from by simpa using hv.agg.symm] at this
  exact this
theorem RunsTo.loadN (hx : ov E x = some (.pointer (some ⟨b, 0, none⟩))) (hb : Blk e w b v.cells.toList) (hv : R4 v) : RunsTo Try.prog n ⟨d, .load 25 x, ty, pos, af, g⟩ E w (nm v) := by
  obtain ⟨n, s, m, t, rfl, _⟩ := hv
  exact RunsTo.loadAgg TBok rfl rfl hx hb (by simp [Value.cells]) rfl
theorem RunsTo.loadD (hx : ov E x = some (.pointer (some ⟨b, 2, none⟩))) (hb : Blk e w b v.cells.toList) (hv : R4 v) : RunsTo Try.prog n ⟨d, .load 25 x, ty, pos, af, g⟩ E w (dm v) := by
  obtain ⟨n, s, m, t, rfl, _⟩ := hv
  exact RunsTo.loadAgg TBok rfl rfl hx hb (by simp [Value.cells]) rfl
theorem RunsTo.loadI2 (hx : ov E x = some (.pointer (some ⟨b, 0, none⟩))) (hb : Blk e w b v.cells.toList) (hv : R2 v) : RunsTo Try.prog n ⟨d, .load 25 x, ty, pos, af, g⟩ E w v := by
  obtain ⟨n, s, rfl, _⟩ := hv
  exact RunsTo.loadAgg TBok rfl rfl hx hb (by simp [IntV, Value.cells]) rfl
theorem RunsTo.fieldN (hT : RT t = true) (hx : ov E x = some v) (hv : R4 v) : RunsTo Try.prog n ⟨d, .field t x 0, ty, pos, af, g⟩ E w (nm v) := by
  refine RunsTo.pure TBok ?_
  obtain ⟨n, s, m, k, rfl, _⟩ := hv
  unfold RT at hT
  rw [Bool.or_eq_true] at hT
  rcases hT with h | h
  all_goals
    have := Nat.eq_of_beq_eq_true h
    subst this
    dsimp only [pureOp]
    rw [hx]
    rfl
theorem RunsTo.fieldD (hT : RT t = true) (hx : ov E x = some v) (hv : R4 v) : RunsTo Try.prog n ⟨d, .field t x 1, ty, pos, af, g⟩ E w (dm v) := by
  refine RunsTo.pure TBok ?_
  obtain ⟨n, s, m, k, rfl, _⟩ := hv
  unfold RT at hT
  rw [Bool.or_eq_true] at hT
  rcases hT with h | h
  all_goals
    have := Nat.eq_of_beq_eq_true h
    subst this
    dsimp only [pureOp]
    rw [hx]
    rfl
theorem RunsTo.buildR (hx : ov E x = some u) (hy : ov E y = some v) (hu : R2 u) (hv : R2 v) : RunsTo Try.prog n ⟨d, .build 33 #[(0, x), (1, y)], ty, pos, af, g⟩ E w (mkR u v) := by
  obtain ⟨n, s, rfl, _⟩ := hu
  obtain ⟨m, t, rfl, _⟩ := hv
  exact RunsTo.build TBok rfl (pl := [(0, 2), (2, 2)]) rfl (ps := [(0, IntV n s), (1, IntV m t)]) (by simp [ovp, hx, hy]) rfl
end

section
variable {n : Nat} {E : List (Nat × Value)} {w w0 : World} {ops : Array Oper} {rest : List Oper} {Q : Exit → Act → World → Prop} {ty ty1 ty2 : TypeId} {pos p1 p2 : String} {af a1 a2 : Array Edge} {b t s d : Nat} {C : List Value} {v : Value} {e : TypeId}

theorem StL.setR (hT : RT e = true) (ht : look E t = some (.pointer (some ⟨b, 0, none⟩))) (hs : look E s = some v) (hv : R4 v) (hb : Blk e w b C) (hC : C.length = 4) (hx : Ext w0 w) (hb0 : w0.heap.size ≤ b)
    (next : ∀ w', Blk e w' b v.cells.toList → Upd b w w' → Ext w0 w' → StL Try.prog n E w' ops rest Q) :
    StL Try.prog n E w ops (⟨none, .store e (.tmp t) (.tmp s), ty, pos, af, none⟩ :: rest) Q := by
  obtain ⟨ti, hte, hag, h4, _⟩ := RT.look hT
  refine StL.step0 rfl rfl (OpR.storeAll TBok hte hag ht hs (by rw [h4]; exact hv.len) (by rw [h4]; exact hC) hv.ones hb) ?_
  rintro _ w' ⟨hb', hu, _⟩
  exact next w' hb' hu (hx.then_upd hu hb0)
theorem StL.newR (hT : RT e = true) (hn : Nat.blt d n = true) (hs : ∀ p, look ((d, p) :: E) s = some v) (hv : R4 v)
    (next : ∀ b w', w.heap.size ≤ b → Ext w w' → Blk e w' b v.cells.toList → StL Try.prog n ((d, .pointer (some ⟨b, 0, none⟩)) :: E) w' ops rest Q) :
    StL Try.prog n E w ops (⟨some d, .alloc e, ty1, p1, a1, none⟩ :: ⟨none, .store e (.tmp d) (.tmp s), ty2, p2, a2, none⟩ :: rest) Q := by
  obtain ⟨ti, hte, hag, h4, hz, _⟩ := RT.look hT
  refine StL.step rfl rfl hn (OpR.alloc TBok hte) ?_
  rintro _ w5 ⟨rfl, hb5, hx5, hz5⟩
  refine StL.setR hT (look_cons_self _ _ _) (hs _) hv hb5 hz hx5 (Nat.le_refl _) ?_
  intro w7 hS5 hu7 hx7
  exact next _ w7 (Nat.le_refl _) hx7 hS5

/-- The result of a function that returns a struct of a rational number. -/
theorem Out.retR {fn : Func} {Φ : Value → World → Prop} (hr : fn.results = #[.cell t 33]) (ht : look E t = some (.pointer (some ⟨b, 0, none⟩))) (hb : Blk e w b v.cells.toList) (hv : R4 v) (h : Φ v w) : Out n E w .ret (bodyPost Try.prog fn (Ret Φ)) :=
  Out.rets TBok [v] hr ⟨⟨_, _, _, _, ht, hb, rfl, rfl, hv.len, by simpa using hv.agg⟩, trivial⟩ h
theorem Out.retF {fn : Func} {Φ : Value → World → Prop} (hr : fn.results = #[.cell t 81]) (ht : look E t = some (.pointer (some ⟨b, 0, none⟩))) (hb : Blk e w b v.cells.toList) (hv : R4 v) (h : Φ v w) : Out n E w .ret (bodyPost Try.prog fn (Ret Φ)) :=
  Out.rets TBok [v] hr ⟨⟨_, _, _, _, ht, hb, rfl, rfl, hv.len, by simpa using hv.agg⟩, trivial⟩ h
theorem Out.retRT {fn : Func} {Φ : Value → World → Prop} {u : Value} (hr : fn.results = #[.cell t 33, .tmp s]) (ht : look E t = some (.pointer (some ⟨b, 0, none⟩))) (hs : look E s = some u) (hb : Blk e w b v.cells.toList) (hv : R4 v) (h : Φ (.tuple #[v, u]) w) : Out n E w .ret (bodyPost Try.prog fn (Ret Φ)) :=
  Out.rets TBok [v, u] hr ⟨⟨_, _, _, _, ht, hb, rfl, rfl, hv.len, by simpa using hv.agg⟩, hs, trivial⟩ h
/-- .. an Int. -/
theorem Out.retI {base : Nat} {a : Int} {wv : World} {fn : Func} {Φ : Value → World → Prop} (hr : fn.results = #[.cell t 25]) (ht : look E t = some (.pointer (some ⟨b, 0, none⟩))) (hb : Blk e w b v.cells.toList) (hv : CanO base wv v a) (h : Φ v w) : Out n E w .ret (bodyPost Try.prog fn (Ret Φ)) :=
  Out.rets TBok [v] hr ⟨⟨_, _, _, _, ht, hb, rfl, rfl, hv.two.1, by simpa using hv.agg⟩, trivial⟩ h
end

/-- The struct of 0 as no bits set: numerator and denominator 0. -/
def zR : Value := .agg #[.bool false, .slice none 0 0, .bool false, .slice none 0 0]
theorem zR_R4 : R4 zR := ⟨false, .slice none 0 0, false, .slice none 0 0, rfl, rfl, rfl⟩

/-- Structs one after the other. -/
def flat (vs : List Value) : List Value := vs.flatMap (fun v => v.cells.toList)
theorem flat_len : ∀ (vs : List Value), (∀ v ∈ vs, R4 v) → (flat vs).length = 4 * vs.length := by
  intro vs
  induction vs with
  | nil => intro _; rfl
  | cons v vs ih =>
    intro h
    have := ih (fun u hu => h u (List.mem_cons_of_mem _ hu))
    have h4 := (h v (by simp)).len
    unfold flat at this ⊢
    rw [List.flatMap_cons, List.length_append, this, h4, List.length_cons]
    omega
theorem flat_at : ∀ (vs : List Value) (i : Nat) (v : Value), (∀ v ∈ vs, R4 v) → vs[i]? = some v → ((flat vs).drop (4 * i)).take 4 = v.cells.toList := by
  intro vs
  induction vs with
  | nil => intro i v _ h; simp at h
  | cons u vs ih =>
    intro i v h hi
    have h4 := (h u (by simp)).len
    unfold flat
    rw [List.flatMap_cons]
    cases i with
    | zero =>
      simp only [List.getElem?_cons_zero, Option.some.injEq] at hi
      subst hi
      rw [Nat.mul_zero, List.drop_zero, List.take_append_of_le_length (by omega), List.take_of_length_le (by omega)]
    | succ i =>
      simp only [List.getElem?_cons_succ] at hi
      rw [show 4 * (i + 1) = u.cells.toList.length + 4 * i by omega, List.drop_append]
      rw [List.drop_of_length_le (by omega), List.nil_append, show u.cells.toList.length + 4 * i - u.cells.toList.length = 4 * i by omega]
      exact ih i v (fun v hv => h v (List.mem_cons_of_mem _ hv)) hi

section
variable {n : Nat} {E : List (Nat × Value)} {w : World} {d : Option Tmp} {x y z i : Operand} {ty : TypeId} {pos : String} {af : Array Edge} {g : Option (Nat × Bool)} {b : Nat} {e : TypeId} {u v k : Value}

theorem RunsTo.indexR {len cap : Nat} {j : Nat} (hx : ov E x = some (.slice (some ⟨b, 0, none⟩) len cap)) (hi : ov E i = some (.int .i64 (j : Int))) (hj : j < len) :
    RunsTo Try.prog n ⟨d, .indexAddr 79 x i, ty, pos, af, g⟩ E w (.pointer (some ⟨b, 4 * j, none⟩)) := by
  intro a ha
  have e1 := ha.eval hx
  have e2 := ha.eval hi
  have h1 := run_underlying_T (P := Try.prog) (w := w) TBok (t := 79) rfl
  have h2 := run_sizeOf_T (P := Try.prog) (w := w) TBok (t := 33) rfl
  dsimp only at h1 h2
  have e3 : (0 : Nat) + j * 4 = 4 * j := by omega
  generalize a.eval = ρ at e1 e2
  simp [execOp, Instr.indexAt, e1, e2, h1, hj, asIntOf, addr_add, go_sem]
theorem RunsTo.loadRat {vs : List Value} {j : Nat} (hx : ov E x = some (.pointer (some ⟨b, 4 * j, none⟩))) (hb : Blk e w b (flat vs)) (hvs : ∀ v ∈ vs, R4 v) (hj : vs[j]? = some v) : RunsTo Try.prog n ⟨d, .load 33 x, ty, pos, af, g⟩ E w v := by
  have hv := hvs v (List.mem_of_getElem? hj)
  have hl := (List.getElem?_eq_some_iff.1 hj).1
  have := RunsTo.loadAgg (n := n) (d := d) (ty := ty) (pos := pos) (af := af) (g := g) TBok (t := 33) rfl rfl hx hb (cs := v.cells.toList) (by rw [flat_len vs hvs]; show 4 * j + 4 ≤ _; omega) (flat_at vs j v hvs hj)
  rw [show Value.agg v.cells.toList.toArray = v from by simpa using hv.agg.symm] at this
  exact this

theorem OpR.rats1 (h0 : ov E x = some u) (hu : R4 u) :
    OpR Try.prog n ⟨d, .buildSlice 79 1 #[(0, x)], ty, pos, af, g⟩ E w (fun r w' => r = .slice (some ⟨w.heap.size, 0, none⟩) 1 1 ∧ Blk 33 w' w.heap.size (flat [u]) ∧ Ext w w') := by
  intro a ha Q K hK
  have e0 := ha.eval h0
  have h1 := run_underlying_T (P := Try.prog) (w := w) TBok (t := 79) rfl
  have h2 := run_sizeOf_T (P := Try.prog) (w := w) TBok (t := 33) rfl
  obtain ⟨_, inf, hi, hsize, hby, hzero⟩ := TBok 33 _ rfl
  dsimp only at h1 h2 hzero
  obtain ⟨n1, s1, m1, t1, rfl, _⟩ := hu
  have hrun : (execOp a.eval ⟨d, .buildSlice 79 1 #[(0, x)], ty, pos, af, g⟩).run Try.prog w = .ok (.value (.slice (some ⟨w.heap.size, 0, none⟩) 1 1)) (w.alloc (.cells #[.bool n1, s1, .bool m1, t1] 33 (0, 0))) := by
    generalize a.eval = ρ at e0
    simp [execOp, Instr.buildSlice, e0, h1, h2, zeroValue, run_typeInfo hi, hzero, Instr.fill, newRow, go_sem]
  unfold Oper.wp
  rw [hrun, Oper.upon_value]
  exact hK _ _ ⟨rfl, blk_alloc _ _ _, ext_alloc _ _⟩
theorem OpR.rats2 (h0 : ov E x = some u) (h1 : ov E y = some v) (hu : R4 u) (hv : R4 v) :
    OpR Try.prog n ⟨d, .buildSlice 79 2 #[(0, x), (1, y)], ty, pos, af, g⟩ E w (fun r w' => r = .slice (some ⟨w.heap.size, 0, none⟩) 2 2 ∧ Blk 33 w' w.heap.size (flat [u, v]) ∧ Ext w w') := by
  intro a ha Q K hK
  have e0 := ha.eval h0
  have e1 := ha.eval h1
  have g1 := run_underlying_T (P := Try.prog) (w := w) TBok (t := 79) rfl
  have g2 := run_sizeOf_T (P := Try.prog) (w := w) TBok (t := 33) rfl
  obtain ⟨_, inf, hi, hsize, hby, hzero⟩ := TBok 33 _ rfl
  dsimp only at g1 g2 hzero
  obtain ⟨n1, s1, m1, t1, rfl, _⟩ := hu
  obtain ⟨n2, s2, m2, t2, rfl, _⟩ := hv
  have hrun : (execOp a.eval ⟨d, .buildSlice 79 2 #[(0, x), (1, y)], ty, pos, af, g⟩).run Try.prog w = .ok (.value (.slice (some ⟨w.heap.size, 0, none⟩) 2 2)) (w.alloc (.cells #[.bool n1, s1, .bool m1, t1, .bool n2, s2, .bool m2, t2] 33 (0, 0))) := by
    generalize a.eval = ρ at e0 e1
    simp [execOp, Instr.buildSlice, e0, e1, g1, g2, zeroValue, run_typeInfo hi, hzero, Instr.fill, newRow, go_sem]
  unfold Oper.wp
  rw [hrun, Oper.upon_value]
  exact hK _ _ ⟨rfl, blk_alloc _ _ _, ext_alloc _ _⟩
theorem OpR.rats3 (h0 : ov E x = some u) (h1 : ov E y = some v) (h2 : ov E z = some k) (hu : R4 u) (hv : R4 v) (hk : R4 k) :
    OpR Try.prog n ⟨d, .buildSlice 79 3 #[(0, x), (1, y), (2, z)], ty, pos, af, g⟩ E w (fun r w' => r = .slice (some ⟨w.heap.size, 0, none⟩) 3 3 ∧ Blk 33 w' w.heap.size (flat [u, v, k]) ∧ Ext w w') := by
  intro a ha Q K hK
  have e0 := ha.eval h0
  have e1 := ha.eval h1
  have e2 := ha.eval h2
  have g1 := run_underlying_T (P := Try.prog) (w := w) TBok (t := 79) rfl
  have g2 := run_sizeOf_T (P := Try.prog) (w := w) TBok (t := 33) rfl
  obtain ⟨_, inf, hi, hsize, hby, hzero⟩ := TBok 33 _ rfl
  dsimp only at g1 g2 hzero
  obtain ⟨n1, s1, m1, t1, rfl, _⟩ := hu
  obtain ⟨n2, s2, m2, t2, rfl, _⟩ := hv
  obtain ⟨n3, s3, m3, t3, rfl, _⟩ := hk
  have hrun : (execOp a.eval ⟨d, .buildSlice 79 3 #[(0, x), (1, y), (2, z)], ty, pos, af, g⟩).run Try.prog w = .ok (.value (.slice (some ⟨w.heap.size, 0, none⟩) 3 3)) (w.alloc (.cells #[.bool n1, s1, .bool m1, t1, .bool n2, s2, .bool m2, t2, .bool n3, s3, .bool m3, t3] 33 (0, 0))) := by
    generalize a.eval = ρ at e0 e1 e2
    simp [execOp, Instr.buildSlice, e0, e1, e2, g1, g2, zeroValue, run_typeInfo hi, hzero, Instr.fill, newRow, go_sem]
  unfold Oper.wp
  rw [hrun, Oper.upon_value]
  exact hK _ _ ⟨rfl, blk_alloc _ _ _, ext_alloc _ _⟩
end

end Go.Qf
