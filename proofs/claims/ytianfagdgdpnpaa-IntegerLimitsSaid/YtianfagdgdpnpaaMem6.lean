/- An element read out of a block that is known whole. -/
import Derived.Test.YtianfagdgdpnpaaMem5
namespace Go.Qf
open Go Go.RowKit

section lists
variable {P : Program} {T : List (Nat × TI)} {n : Nat} {E : List (Nat × Value)} {w : World} {Q : Exit → Act → World → Prop} {ops : Array Oper} {rest : List Oper}

theorem StL.elemB (hT : TblOk P T) {d1 d2 : Nat} {t u : TypeId} {x i : Operand} {ty ty2 : TypeId} {pos pos2 : String} {af af2 : Array Edge} {g g2 : Option (Nat × Bool)} {et : TypeId} {s1 s2 : Nat} {z : Value} {ti : TI} {b off len cap : Nat} {C : List Value} {k : IntKind} {iv : Int} (j : Nat) (c : Value)
    (hb : Blk et w b C) (hc : C[off + j]? = some c) (hj : iv = j) (hlt : j < len)
    (ht : lookT T t = some ⟨.slice et, s1, s2, z⟩) (hte : lookT T et = some ti) (hsz : ti.size = 1) (hag : isAggD ti.desc = false) (hu : u = et)
    (hx : ov E x = some (.slice (some ⟨b, off, none⟩) len cap)) (hi : ov E i = some (.int k iv)) (hg : wantE ops E g = some true) (hn : Nat.blt d1 n = true) (hn2 : Nat.blt d2 n = true) (hg2 : ∀ p, wantE ops ((d1, p) :: E) g2 = some true)
    (next : ∀ p, StL P n ((d2, c) :: (d1, p) :: E) w ops rest Q) :
    StL P n E w ops (⟨some d1, .indexAddr t x i, ty, pos, af, g⟩ :: ⟨some d2, .load u (.tmp d1), ty2, pos2, af2, g2⟩ :: rest) Q := by
  subst hu
  refine StL.step rfl hg hn (RunsTo.indexAddr hT ht hte hsz hx hi (by omega) (by omega)).op ?_
  rintro p w' ⟨rfl, rfl⟩
  rw [show iv.toNat = j from by omega, addr_add]
  have hl : ov ((d1, .pointer (some ⟨b, off + j, none⟩)) :: E) (.tmp d1) = some (.pointer (some ⟨b, off + j, none⟩)) := look_cons_self _ _ _
  refine StL.step rfl (hg2 _) hn2 (RunsTo.load hT hte hag hl (hb.cell hc)).op ?_
  rintro c' w' ⟨rfl, rfl⟩
  exact next _

theorem QL.elemB (hT : TblOk P T) {d1 d2 : Nat} {t u : TypeId} {x i : Operand} {ty ty2 : TypeId} {pos pos2 : String} {af af2 : Array Edge} {g g2 : Option (Nat × Bool)} {et : TypeId} {s1 s2 : Nat} {z : Value} {ti : TI} {b off len cap : Nat} {C : List Value} {k : IntKind} {iv : Int} (j : Nat) (c : Value)
    (hb : Blk et w b C) (hc : C[off + j]? = some c) (hj : iv = j) (hlt : j < len)
    (ht : lookT T t = some ⟨.slice et, s1, s2, z⟩) (hte : lookT T et = some ti) (hsz : ti.size = 1) (hag : isAggD ti.desc = false) (hu : u = et)
    (hx : ov E x = some (.slice (some ⟨b, off, none⟩) len cap)) (hi : ov E i = some (.int k iv)) (hg : wantE ops E g = some true) (hn : Nat.blt d1 n = true) (hn2 : Nat.blt d2 n = true) (hg2 : ∀ p, wantE ops ((d1, p) :: E) g2 = some true)
    (next : ∀ p, QL P n ((d2, c) :: (d1, p) :: E) w ops rest Q) :
    QL P n E w ops (⟨some d1, .indexAddr t x i, ty, pos, af, g⟩ :: ⟨some d2, .load u (.tmp d1), ty2, pos2, af2, g2⟩ :: rest) Q := by
  subst hu
  refine QL.step rfl hg hn (fun m => RunsTo.indexAddr hT ht hte hsz hx hi (by omega) (by omega)) ?_
  rw [show iv.toNat = j from by omega, addr_add]
  have hl : ov ((d1, .pointer (some ⟨b, off + j, none⟩)) :: E) (.tmp d1) = some (.pointer (some ⟨b, off + j, none⟩)) := look_cons_self _ _ _
  exact QL.step rfl (hg2 _) hn2 (fun m => RunsTo.load hT hte hag hl ((hb.drewN m).cell hc)) (next _)

end lists
end Go.Qf
