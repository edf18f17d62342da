/- What the proof of IntegerSmall needs, part Qc: lemmas on the model and on the program's functions. -/
import Derived.Laws.BytesString
import Derived.Laws.RangeString
import Derived.Lib.OthersKept
import Derived.Laws.Strings
import Derived.ProofKit
import Derived.OpenShut
import Derived.Lib.SmallJoins
import Derived.Carry
import Derived.ChangeMaps5
import Derived.Test.YtianfagdgdpnpaaQa
import Derived.Test.YtianfagdgdpnpaaQb
/- A region that draws its order: the rule proved. -/
namespace Go.Qf
open Go Go.RowKit

def heldP (E : List (Nat × Value)) (w : World) : List (Nat × Psi) → Prop
  | [] => True
  | (p, χ) :: r => (match look E p with | some v => χ v w | none => True) ∧ heldP E w r

theorem heldP_spec {E : List (Nat × Value)} {w : World} : ∀ {H : List (Nat × Psi)}, (∀ q ∈ H, ∀ v, look E q.1 = some v → q.2 v w) → heldP E w H := by
  intro H
  induction H with
  | nil => intro _; trivial
  | cons q r ih =>
    intro h
    obtain ⟨p, χ⟩ := q
    refine ⟨?_, ih fun q hq => h q (List.mem_cons_of_mem _ hq)⟩
    cases hl : look E p with
    | none => trivial
    | some v => exact h (p, χ) (by simp) v hl

theorem look_append {X E : List (Nat × Value)} {k : Nat} {v : Value} : look (X ++ E) k = some v → look X k = some v ∨ look E k = some v := by
  induction X with
  | nil => intro h; exact .inr h
  | cons q r ih =>
    obtain ⟨t, u⟩ := q
    intro h
    by_cases e : t = k
    · subst e
      rw [List.cons_append, look_cons_self] at h
      exact .inl (by rw [look_cons_self]; exact h)
    · rw [List.cons_append, look_cons_ne _ _ e] at h
      rw [look_cons_ne _ _ e]
      exact ih h

/-- The end of the drawn part. -/
def FlowEnd (P : Program) (n : Nat) (l : List Oper) (m : Nat) (E : List (Nat × Value)) (w : World) (Q : Exit → Act → World → Prop) (X : List (Nat × Value)) (S H : List (Nat × Psi)) : Prop :=
  ∀ w1, Rg P (Tg w (blocksOf E (stSlots (l.take m)))) w w1 → allP S (X ++ E) w1 (fun E2 => heldP E2 w1 H → Dist (allocs (l.take m)) E2 → StL P n E2 w1 l.toArray (l.drop m) Q)

theorem mem_lookP {S : List (Nat × Psi)} {t : Nat} {ψ : Psi} (h : lookP S t = some ψ) : t ∈ S.map (·.1) := List.mem_map.2 ⟨_, lookP_in h, rfl⟩

theorem stageF {P : Program} {n : Nat} {l : List Oper} {m : Nat} {Sf Hf : List (Nat × Psi)} {E : List (Nat × Value)} {w0 : World} {Q : Exit → Act → World → Prop} (hD : FlowOk l m) (hSk : Sf.map (·.1) = dsts (l.take m)) (hHk : Hf.map (·.1) = stSlots (l.take m))
    (hmo : ∀ q ∈ Sf, MonoR P q.2) (hmx : ∀ q ∈ Hf, MonoX P q.2) (hfree : ∀ d ∈ dsts (l.take m), look E d = none) (hlt : ∀ d ∈ dsts (l.take m), d < n) (hall : allPtr E (preSlots l m) = true) (hpre : preD w0 (blocksOf E (preSlots l m)))
    (hstep : ∀ j o, j < m → l[j]? = some o → StepOk P n l m E w0 Sf Hf j o)
    {X : List (Nat × Value)} {S H : List (Nat × Psi)} (hend : FlowEnd P n l m E w0 Q X S H) (hX : ∀ t v, look X t = some v → lookP Sf t = some (Is v)) (hS : ∀ q ∈ S, lookP Sf q.1 = some q.2) (hH : ∀ q ∈ H, lookP Hf q.1 = some q.2) :
    ∀ (f : Nat) (U : List Nat) (listed : Array Bool) (a : Act) (w : World), f = (l.length - m) + U.length → U.Nodup → (∀ i, i ∈ U ↔ i < m ∧ listed.getD i false = false) → InvF P n l m Sf Hf E w0 listed a w → wpAny P .any l.toArray Q f listed a w := by
  have htake : ∀ {i : Nat} {o : Oper}, i < m → l[i]? = some o → (l.take m)[i]? = some o := fun hi ho => by rw [List.getElem?_take_of_lt hi]; exact ho
  have hdin : ∀ {i : Nat} {o : Oper} {d : Nat}, i < m → l[i]? = some o → o.dst = some d → d ∈ dsts (l.take m) := fun hi ho hd => mem_dsts.1 ⟨_, _, htake hi ho, hd⟩
  -- all have come up
  have hfinish : ∀ {f : Nat} {listed : Array Bool} {a : Act} {w : World}, f = l.length - m → (∀ i, i < m → listed.getD i false = true) → InvF P n l m Sf Hf E w0 listed a w → wpAny P .any l.toArray Q f listed a w := by
    intro f listed a w hf hL hI
    have hle := hD.le
    refine stageB hD.back hD.last f m listed a w (by omega) (Nat.le_refl _) hI.size hL hI.noB ?_
    have hrel : Rg P (Tg w0 (blocksOf E (stSlots (l.take m)))) w0 w := by
      refine hI.rel.weak ?_
      rintro k _ (h1 | ⟨j, o, p, hj, ho, _, hp, hlk⟩)
      · exact .inl h1
      · exact .inr (mem_blocksOf hlk (mem_stSlots ⟨j, o, htake hj ho, hp⟩))
    have hfact : ∀ t φ, lookP Sf t = some φ → ∃ v, a.tmps[t]? = some v ∧ φ v w := by
      intro t φ ht
      have : t ∈ dsts (l.take m) := by rw [← hSk]; exact mem_lookP ht
      obtain ⟨i, o, hi, hd⟩ := mem_dsts.2 this
      have him : i < m := by have := (List.getElem?_eq_some_iff.1 hi).1; simp at this; omega
      rw [List.getElem?_take_of_lt him] at hi
      exact hI.facts i o t φ him hi (hL i him) hd ht
    obtain ⟨E2, hfit, hst⟩ := allP_spec hI.tmps hI.defers S (X ++ E) (by
      intro k v hk
      rcases look_append hk with h1 | h1
      · obtain ⟨u, hu, he⟩ := hfact k _ (hX k v h1)
        rw [hu]; exact congrArg some he
      · exact hI.base k v h1) (fun t ψ ht => hfact t ψ (hS _ ht)) (hend w hrel)
    refine hst (heldP_spec ?_) ?_ a hfit
    · intro q hq v hv
      have hlk := hH q hq
      have : q.1 ∈ stSlots (l.take m) := by rw [← hHk]; exact mem_lookP hlk
      have hex : ∃ (i : Nat) (o : Oper), i < m ∧ l[i]? = some o ∧ stSlot o = some q.1 := by
        clear hv hlk
        have aux : ∀ (r : List Oper), q.1 ∈ stSlots r → ∃ (i : Nat) (o : Oper), r[i]? = some o ∧ stSlot o = some q.1 := by
          intro r
          induction r with
          | nil => intro h; cases h
          | cons x r ih =>
            intro h
            unfold stSlots at h
            split at h
            · rename_i p hp
              rcases List.mem_cons.1 h with e | h
              · exact ⟨0, x, rfl, by rw [e]; exact hp⟩
              · obtain ⟨i, o, h1, h2⟩ := ih h
                exact ⟨i + 1, o, h1, h2⟩
            · obtain ⟨i, o, h1, h2⟩ := ih h
              exact ⟨i + 1, o, h1, h2⟩
        obtain ⟨i, o, h1, h2⟩ := aux _ this
        have him : i < m := by have := (List.getElem?_eq_some_iff.1 h1).1; simp at this; omega
        rw [List.getElem?_take_of_lt him] at h1
        exact ⟨i, o, him, h1, h2⟩
      obtain ⟨i, o, him, hi, hp⟩ := hex
      obtain ⟨u, hu, hχ⟩ := hI.held i o q.1 q.2 him hi (hL i him) hp hlk
      have := hfit.slots _ _ hv
      rw [hu] at this; cases this
      exact hχ
    · intro t ht t' ht' hne v hv hv'
      obtain ⟨i, oi, hi, hai, hdi⟩ := mem_allocs ht
      obtain ⟨j, oj, hj, haj, hdj⟩ := mem_allocs ht'
      have him : i < m := by have := (List.getElem?_eq_some_iff.1 hi).1; simp at this; omega
      have hjm : j < m := by have := (List.getElem?_eq_some_iff.1 hj).1; simp at this; omega
      rw [List.getElem?_take_of_lt him] at hi
      rw [List.getElem?_take_of_lt hjm] at hj
      refine hI.apart i j oi oj t t' v him hjm ?_ hi hj (hL i him) (hL j hjm) hai haj hdi hdj (hfit.slots t v hv) (hfit.slots t' v hv')
      intro e; subst e
      rw [hi] at hj; cases hj
      rw [hdi] at hdj; cases hdj
      exact hne rfl
  intro f
  induction f with
  | zero =>
    intro U listed a w hf hU hmem hI
    have h0 : U = [] := List.eq_nil_of_length_eq_zero (by omega)
    subst h0
    refine hfinish (by simpa using hf) ?_ hI
    intro i hi
    cases hx : listed.getD i false with
    | true => rfl
    | false => have := (hmem i).2 ⟨hi, hx⟩; cases this
  | succ f ih =>
    intro U listed a w hf hU hmem hI
    by_cases h0 : U = []
    · subst h0
      refine hfinish (by simpa using hf) ?_ hI
      intro i hi
      cases hx : listed.getD i false with
      | true => rfl
      | false => have := (hmem i).2 ⟨hi, hx⟩; cases this
    · have hgd : ∀ i, i < l.length → listed.getD i true = listed.getD i false := fun i hi => by
        have : i < listed.size := by have := hI.size; omega
        simp [Array.getD_eq_getD_getElem?, this]
      have hclo : ∀ (i : Nat) (o : Oper), l[i]? = some o → (∀ e ∈ edgesTo o, listed.getD e false = true) → ∀ j, ((masks [] l).getD i 0).testBit j = true → listed.getD j false = true :=
        masks_spec (l := l) (L := fun j => listed.getD j false = true) hI.closed l [] [] rfl rfl (fun j _ hj => by simp at hj)
      constructor
      · intro hr
        exfalso
        obtain ⟨x, hx⟩ := List.exists_mem_of_ne_nil U h0
        have hleast : ∀ b, ∀ i, i < b → i < m → listed.getD i false = false → ∃ i0, i0 < m ∧ listed.getD i0 false = false ∧ ∀ j, j < i0 → listed.getD j false = true := by
          intro b
          induction b with
          | zero => intro i hi; omega
          | succ b ihb =>
            intro i hi him hil
            by_cases hall : ∀ j, j < i → listed.getD j false = true
            · exact ⟨i, him, hil, hall⟩
            · have : ∃ j, j < i ∧ listed.getD j false = false := by
                apply Classical.byContradiction
                intro hne
                apply hall
                intro j hj
                cases hx : listed.getD j false with
                | true => rfl
                | false => exact absurd ⟨j, hj, hx⟩ hne
              obtain ⟨j, hj, hjl⟩ := this
              exact ihb j (by omega) (by omega) hjl
        obtain ⟨i0, hi0, hl0, hbef⟩ := hleast (x + 1) x (by omega) ((hmem x).1 hx).1 ((hmem x).1 hx).2
        have hi0l : i0 < l.length := by have := hD.le; omega
        have : i0 ∈ Region.ready .any l.toArray listed := by
          refine mem_ready.2 ⟨by rw [hgd i0 hi0l]; exact hl0, l[i0], by simp [hi0l], fun e he hb => hbef _ ?_⟩
          exact hD.back i0 l[i0] (List.getElem?_eq_getElem hi0l) e.on (mem_edgesTo.2 ⟨e, he, hb, rfl⟩)
        rw [hr] at this
        cases this
      · intro i hi
        obtain ⟨h3, o, ho, hall2⟩ := mem_ready.1 hi
        have hil : i < l.length := by
          have := (Array.getElem?_eq_some_iff.1 ho).1
          simpa using this
        have hol : l[i]? = some o := by simpa using ho
        rw [hgd i hil] at h3
        have hedges : ∀ e ∈ edgesTo o, listed.getD e false = true := fun e he => by
          obtain ⟨e', h5, h6, h7⟩ := mem_edgesTo.1 he; subst h7; exact hall2 e' h5 h6
        have him : i < m := by
          rcases Nat.lt_or_ge i m with h | h
          · exact h
          · exfalso
            obtain ⟨x, hx⟩ := List.exists_mem_of_ne_nil U h0
            have hxm := (hmem x).1 hx
            have := hclo i o hol hedges x (hD.last i h hil x (by omega))
            rw [hxm.2] at this
            cases this
        have hrel : Rg P (Tg w0 (blocksOf E (later l m i))) w0 w := by
          refine hI.rel.weak ?_
          rintro k _ (h1 | ⟨j, oj, p, hj, hoj, hjl, hp, hlk⟩)
          · exact .inl h1
          · refine .inr (mem_blocksOf hlk (mem_laterFrom (l.take m) 0 j oj (htake hj hoj) hp ?_))
            rw [Nat.zero_add]
            cases hb : ((masks [] l).getD j 0).testBit i with
            | false => rfl
            | true =>
              have := hclo j oj hoj (fun e he => hI.closed j oj hoj hjl e he) i hb
              rw [h3] at this; cases this
        obtain ⟨E2, hfit, hop⟩ := hstep i o him hol w a hrel hI.tmps hI.defers hI.base (fun t ht φ hφ => by
          obtain ⟨j, oj, hj, hoj, hdj, hje⟩ := hD.pred i o him hol t ht (by rw [← hSk]; exact mem_lookP hφ)
          exact hI.facts j oj t φ hj hoj (hedges j hje) hdj hφ)
        have hiU : i ∈ U := (hmem i).2 ⟨him, h3⟩
        have hset : ∀ j, (listed.setIfInBounds i true).getD j false = if j = i then true else listed.getD j false := by
          intro j
          simp only [Array.getD_eq_getD_getElem?]
          by_cases e : j = i
          · subst e; simp [hI.size, hil]
          · rw [Array.getElem?_setIfInBounds_ne (fun e' => e e'.symm), if_neg e]
        have hUlen : f = l.length - m + (U.erase i).length := by
          have hpos : 0 < U.length := List.length_pos_of_mem hiU
          rw [List.length_erase_of_mem hiU]; omega
        have hUmem : ∀ j, j ∈ U.erase i ↔ j < m ∧ (listed.setIfInBounds i true).getD j false = false := by
          intro j
          rw [hU.mem_erase_iff, hset]
          constructor
          · rintro ⟨hne, hj⟩
            rw [if_neg hne]
            exact (hmem j).1 hj
          · rintro ⟨hj, hj2⟩
            by_cases e : j = i
            · rw [if_pos e] at hj2; cases hj2
            · rw [if_neg e] at hj2; exact ⟨e, (hmem j).2 ⟨hj, hj2⟩⟩
        have hclosed' : ∀ j oj, l[j]? = some oj → (listed.setIfInBounds i true).getD j false = true → ∀ e ∈ edgesTo oj, (listed.setIfInBounds i true).getD e false = true := by
          intro j oj hj hjl e he
          rw [hset] at hjl ⊢
          by_cases e1 : e = i
          · rw [if_pos e1]
          · rw [if_neg e1]
            by_cases e2 : j = i
            · subst e2
              rw [hol] at hj; cases hj
              exact hedges e he
            · rw [if_neg e2] at hjl
              exact hI.closed j oj hj hjl e he
        have hnoB' : ∀ j, m ≤ j → (listed.setIfInBounds i true).getD j false = false := by
          intro j hj
          rw [hset, if_neg (by omega)]
          exact hI.noB j hj
        have hrel' : ∀ {w2 : World}, Rg P (fun k => w0.heap.size ≤ k ∨ ∃ j o p, j < m ∧ l[j]? = some o ∧ (listed.setIfInBounds i true).getD j false = true ∧ stSlot o = some p ∧ look E p = some (.pointer (some ⟨k, 0, none⟩))) w w2 → Rg P (fun k => w0.heap.size ≤ k ∨ ∃ j o p, j < m ∧ l[j]? = some o ∧ (listed.setIfInBounds i true).getD j false = true ∧ stSlot o = some p ∧ look E p = some (.pointer (some ⟨k, 0, none⟩))) w0 w2 := by
          intro w2 h
          refine Rg.trans (hI.rel.weak ?_) h
          rintro k _ (h1 | ⟨j, oj, p, hj, hoj, hjl, hp, hlk⟩)
          · exact .inl h1
          · refine .inr ⟨j, oj, p, hj, hoj, ?_, hp, hlk⟩
            rw [hset]
            split
            · rfl
            · exact hjl
        unfold wpOp
        simp only [ho]
        rcases hop with ⟨d, ψ, hd, hψ, hop⟩ | ⟨p, χ, hp, hχ, hop⟩
        · have hdS : d ∈ dsts (l.take m) := hdin him hol hd
          have hdn : d < n := hlt d hdS
          have next : ∀ v w2, (Ext w w2 ∧ ψ v w2 ∧ NewPtr o w v w2) → wpAny P .any l.toArray Q f (listed.setIfInBounds i true) (a.put o.dst v) w2 := by
            rintro v w2 ⟨hx2, hpsi, hnew⟩
            have hput : ∀ {t : Nat} {u : Value}, t ≠ d → a.tmps[t]? = some u → (a.put o.dst v).tmps[t]? = some u := by
              intro t u hne hu
              simp only [hd, Act.put]
              rw [Array.getElem?_setIfInBounds_ne (fun e => hne e.symm)]
              exact hu
            have hself : (a.put o.dst v).tmps[d]? = some v := by simp [hd, Act.put, hI.tmps, hdn]
            refine ih (U.erase i) _ _ w2 hUlen (hU.erase i) hUmem ⟨by simpa using hI.size, hclosed', by simp [hd, Act.put, hI.tmps], by simp [hd, Act.put, hI.defers], ?_, ?_, ?_, hrel' hx2.rg, hnoB', ?_, ?_⟩
            · intro k u hk
              refine hput ?_ (hI.base k u hk)
              intro e; subst e
              rw [hfree k hdS] at hk; cases hk
            · intro j oj d' φ hj hoj hjl hd' hφ
              rw [hset] at hjl
              by_cases e : j = i
              · subst e
                rw [hol] at hoj; cases hoj
                rw [hd] at hd'; cases hd'
                rw [hψ] at hφ; cases hφ
                exact ⟨v, hself, hpsi⟩
              · rw [if_neg e] at hjl
                obtain ⟨u, hu, hφu⟩ := hI.facts j oj d' φ hj hoj hjl hd' hφ
                refine ⟨u, hput ?_ hu, hmo _ (lookP_in hφ) u w w2 hx2.rg hφu⟩
                intro e'; subst e'
                exact e (inj_dsts hD.ndd (htake hj hoj) (htake him hol) hd' hd)
            · intro j oj q ξ hj hoj hjl hq hξ
              rw [hset] at hjl
              have e : j ≠ i := by
                intro e; subst e
                rw [hol] at hoj; cases hoj
                simp [stSlot, hd] at hq
              rw [if_neg e] at hjl
              obtain ⟨u, hu, hξu⟩ := hI.held j oj q ξ hj hoj hjl hq hξ
              refine ⟨u, hput ?_ hu, (hmx _ (lookP_in hξ)).1 u w w2 hx2 hξu⟩
              intro e'; subst e'
              -- the pointer's slot has come up already
              by_cases hin : q ∈ dsts (l.take m)
              · obtain ⟨x, ox, hx, hox, hdx, _, hxe⟩ := hD.slot j oj q hj hoj hq hin
                have hxi := inj_dsts hD.ndd (htake hx hox) (htake him hol) hdx hd
                subst hxi
                have := hI.closed j oj hoj hjl x hxe
                rw [h3] at this; cases this
              · exact hin hdS
            · intro j oj d' hj hoj hjl hal hd'
              rw [hset] at hjl
              by_cases e : j = i
              · subst e
                rw [hol] at hoj; cases hoj
                rw [hd] at hd'; cases hd'
                obtain ⟨b, rfl, hb0, hb⟩ := hnew hal
                exact ⟨b, hself, Nat.le_trans hI.rel.size hb0, hb⟩
              · rw [if_neg e] at hjl
                obtain ⟨b, hb, hb0, hbl⟩ := hI.made j oj d' hj hoj hjl hal hd'
                refine ⟨b, hput ?_ hb, hb0, Nat.lt_of_lt_of_le hbl hx2.size⟩
                intro e'; subst e'
                exact e (inj_dsts hD.ndd (htake hj hoj) (htake him hol) hd' hd)
            · have hold : ∀ j oj d' u, j < m → j ≠ i → l[j]? = some oj → listed.getD j false = true → isAlloc oj.op = true → oj.dst = some d' → (a.put o.dst v).tmps[d']? = some u → a.tmps[d']? = some u ∧ ∃ b, u = .pointer (some ⟨b, 0, none⟩) ∧ b < w.heap.size := by
                intro j oj d' u hj hne hoj hjl hal hd' hu
                obtain ⟨b, hb, _, hbl⟩ := hI.made j oj d' hj hoj hjl hal hd'
                have hne' : d' ≠ d := fun e' => hne (inj_dsts hD.ndd (htake hj hoj) (htake him hol) (by rw [hd', e']) hd)
                rw [hput hne' hb] at hu
                cases hu
                exact ⟨hb, b, rfl, hbl⟩
              have hnewv : isAlloc o.op = true → ∀ u, (a.put o.dst v).tmps[d]? = some u → ∃ b, u = .pointer (some ⟨b, 0, none⟩) ∧ w.heap.size ≤ b := by
                intro hal u hu
                obtain ⟨b, hb, hb0, _⟩ := hnew hal
                rw [hself] at hu
                cases hu
                exact ⟨b, hb, hb0⟩
              intro j k oj ok dj dk u hj hk hne hoj hok hjl hkl haj hak hdj hdk huj huk
              rw [hset] at hjl hkl
              by_cases e1 : j = i
              · subst e1
                have e2 : ¬ k = j := fun e => hne e.symm
                rw [if_neg e2] at hkl
                rw [hol] at hoj; cases hoj
                rw [hd] at hdj; cases hdj
                obtain ⟨_, b, hb, hbl⟩ := hold k ok dk u hk e2 hok hkl hak hdk huk
                obtain ⟨b', hb', hbl'⟩ := hnewv haj u huj
                rw [hb] at hb'; cases hb'
                omega
              · rw [if_neg e1] at hjl
                obtain ⟨huj', b, hb, hbl⟩ := hold j oj dj u hj e1 hoj hjl haj hdj huj
                by_cases e2 : k = i
                · subst e2
                  rw [hol] at hok; cases hok
                  rw [hd] at hdk; cases hdk
                  obtain ⟨b', hb', hbl'⟩ := hnewv hak u huk
                  rw [hb] at hb'; cases hb'
                  omega
                · rw [if_neg e2] at hkl
                  obtain ⟨huk', _⟩ := hold k ok dk u hk e2 hok hkl hak hdk huk
                  exact hI.apart j k oj ok dj dk u hj hk hne hoj hok hjl hkl haj hak hdj hdk huj' huk'
          rcases hop with ⟨hwant, hop⟩ | ⟨hwant, hop⟩
          · rw [if_pos (wantE_spec hfit hwant)]
            exact .inl (hop a hfit Q _ next)
          · rw [if_neg (by rw [wantE_spec hfit hwant]; simp)]
            exact next undef w hop
        · have hdst : o.dst = none := by
            unfold stSlot at hp
            split at hp
            · assumption
            · cases hp
          have next : ∀ v w2, (∃ b, look E2 p = some (.pointer (some ⟨b, 0, none⟩)) ∧ Upd b w w2 ∧ VarKept P b w w2 ∧ χ (.pointer (some ⟨b, 0, none⟩)) w2) → wpAny P .any l.toArray Q f (listed.setIfInBounds i true) (a.put o.dst v) w2 := by
            rintro v w2 ⟨b, hlb, hu, hvk, hχb⟩
            have hput : a.put o.dst v = a := by rw [hdst]; rfl
            rw [hput]
            have hpb := hfit.slots p _ hlb
            obtain ⟨b', hb', hcase⟩ := hI.ptr hD hall hpre him hol hp hedges
            rw [hpb] at hb'
            simp only [Option.some.injEq, Value.pointer.injEq, Addr.mk.injEq, and_true] at hb'
            subst hb'
            refine ih (U.erase i) _ _ w2 hUlen (hU.erase i) hUmem ⟨by simpa using hI.size, hclosed', hI.tmps, hI.defers, hI.base, ?_, ?_, hrel' (Rg.of_upd hu hvk ?_), hnoB', ?_, ?_⟩
            · intro j oj d' φ hj hoj hjl hd' hφ
              rw [hset] at hjl
              have e : j ≠ i := by
                intro e; subst e
                rw [hol] at hoj; cases hoj
                rw [hdst] at hd'; cases hd'
              rw [if_neg e] at hjl
              obtain ⟨u, hu', hφu⟩ := hI.facts j oj d' φ hj hoj hjl hd' hφ
              exact ⟨u, hu', hmo _ (lookP_in hφ) u w w2 (Rg.of_upd hu hvk trivial) hφu⟩
            · intro j oj q ξ hj hoj hjl hq hξ
              rw [hset] at hjl
              by_cases e : j = i
              · subst e
                rw [hol] at hoj; cases hoj
                rw [hp] at hq; cases hq
                rw [hχ] at hξ; cases hξ
                exact ⟨_, hpb, hχb⟩
              · rw [if_neg e] at hjl
                obtain ⟨u, hu', hξu⟩ := hI.held j oj q ξ hj hoj hjl hq hξ
                refine ⟨u, hu', (hmx _ (lookP_in hξ)).2 u w w2 b hu hvk ?_ hξu⟩
                intro e'; subst e'
                exact hI.ptr_ne hD hall hpre hj him e hoj hol hq hp (hI.closed j oj hoj hjl) hedges hu' hpb
            · rcases hcase with ⟨_, h4⟩ | ⟨_, _, h4, _⟩
              · exact .inl h4
              · exact .inr ⟨i, o, p, him, hol, by rw [hset, if_pos rfl], hp, h4⟩
            · intro j oj d' hj hoj hjl hal hd'
              rw [hset] at hjl
              have e : j ≠ i := by
                intro e; subst e
                rw [hol] at hoj; cases hoj
                rw [hdst] at hd'; cases hd'
              rw [if_neg e] at hjl
              obtain ⟨c, hc, hc0, hcl⟩ := hI.made j oj d' hj hoj hjl hal hd'
              exact ⟨c, hc, hc0, Nat.lt_of_lt_of_le hcl hu.size⟩
            · intro j k oj ok dj dk u hj hk hne hoj hok hjl hkl haj hak hdj hdk huj huk
              rw [hset] at hjl hkl
              have e1 : j ≠ i := by
                intro e; subst e
                rw [hol] at hoj; cases hoj
                rw [hdst] at hdj; cases hdj
              have e2 : k ≠ i := by
                intro e; subst e
                rw [hol] at hok; cases hok
                rw [hdst] at hdk; cases hdk
              rw [if_neg e1] at hjl
              rw [if_neg e2] at hkl
              exact hI.apart j k oj ok dj dk u hj hk hne hoj hok hjl hkl haj hak hdj hdk huj huk
          rcases hop with ⟨hwant, hop⟩ | ⟨hwant, hop⟩
          · rw [if_pos (wantE_spec hfit hwant)]
            exact .inl (hop a hfit Q _ next)
          · rw [if_neg (by rw [wantE_spec hfit hwant]; simp)]
            exact next undef w hop

/-- THE RULE: the first m operations come in any order that their edges allow, the others behind them one by one. -/
theorem St.flow {P : Program} {n : Nat} {l : List Oper} (m : Nat) {E : List (Nat × Value)} {w : World} {Q : Exit → Act → World → Prop} {id : Nat} (hP : P.follows .mixedOrders = true) (hD : flowOk l m = true) (hfree : freeE (dsts (l.take m)) E = true) (hlt : (dsts (l.take m)).all (fun d => Nat.blt d n) = true)
    (hall : allPtr E (preSlots l m) = true) (hpre : preD w (blocksOf E (preSlots l m))) (h : FL P n l m E w (FlowEnd P n l m E w Q) 0 [] [] [] (l.take m)) : St P n E w (.region id l.toArray true) Q := by
  intro a ha
  have hD' := flowOk_spec hD
  refine wp_region_any hP ?_
  have hle := hD'.le
  obtain ⟨Sf, Hf, h1, h2, h3, h4, ⟨X, S, H, h5, h6, h7, h8⟩, h9⟩ := FL_spec hle hD'.ndd hD'.nds (l.take m) [] [] [] [] [] [] rfl rfl rfl (by simp [look]) (by simp) (by simp) h
  simp only [List.nil_append] at h1 h2 h6 h7 h8 h9
  have hrep : ∀ i, (Array.replicate l.toArray.size false).getD i false = false := by
    intro i
    simp [Array.getD_eq_getD_getElem?, Array.getElem?_replicate]
    split <;> simp
  refine stageF hD' h1 h2 h3 h4 (freeE_spec hfree) (fun d hd => by simpa [Nat.blt_eq] using List.all_eq_true.1 hlt d hd) hall hpre (fun j o hj ho => h9 j o (Nat.zero_le _) hj ho) h5 h6 h7 h8 l.toArray.size (List.range m) _ a _ (by simp; omega) List.nodup_range ?_
    ⟨by simp, ?_, ha.size, ha.defers, ha.slots, ?_, ?_, ⟨rfl, rfl, rfl, Nat.le_refl _, fun _ _ => .inl rfl⟩, ?_, ?_, ?_⟩
  · intro i
    rw [List.mem_range, hrep]
    simp
  · intro i o _ h
    rw [hrep] at h; cases h
  · intro i o d ψ _ _ h
    rw [hrep] at h; cases h
  · intro i o d ψ _ _ h
    rw [hrep] at h; cases h
  · intro i _
    exact hrep i
  · intro i o d _ _ h
    rw [hrep] at h; cases h
  · intro i j oi oj di dj v _ _ _ _ _ h
    rw [hrep] at h; cases h

end Go.Qf

/- A region that draws its order: the steps of the walk. -/
namespace Go.Qf
open Go Go.RowKit

def noneS (S : List (Nat × Psi)) : List Nat → Bool
  | [] => true
  | t :: r => match lookP S t with
    | some _ => false
    | none => noneS S r

theorem obl_none {S : List (Nat × Psi)} {w : World} {k : List (Nat × Value) → Prop} : ∀ {ts : List Nat} {E : List (Nat × Value)}, noneS S ts = true → k E → obl S ts E w k := by
  intro ts
  induction ts with
  | nil => intro E _ h; exact h
  | cons t r ih =>
    intro E hn h
    unfold noneS at hn
    unfold obl
    split at hn
    · cases hn
    · rename_i hl
      rw [hl]
      exact ih hn h

theorem obl_keep {S : List (Nat × Psi)} {w : World} {k : List (Nat × Value) → Prop} : ∀ {ts : List Nat} {E : List (Nat × Value)}, (∀ E2, (∀ t, lookP S t = none → look E2 t = look E t) → k E2) → obl S ts E w k := by
  intro ts
  induction ts with
  | nil => intro E h; exact h E fun _ _ => rfl
  | cons t r ih =>
    intro E h
    unfold obl
    split
    · rename_i ψ hl
      intro v _
      refine ih fun E2 h2 => h E2 fun u hu => ?_
      rw [h2 u hu, look_cons_ne]
      intro e; subst e
      rw [hl] at hu; cases hu
    · exact ih h

def guardSlot (l : List Oper) : Option (Nat × Bool) → List Nat
  | none => []
  | some (j, _) => match (l[j]?).bind (·.dst) with
    | some d => [d]
    | none => []

theorem wantE_keep {l : List Oper} {S : List (Nat × Psi)} {E E2 : List (Nat × Value)} {g : Option (Nat × Bool)} {b : Bool} (hg : noneS S (guardSlot l g) = true) (h2 : ∀ t, lookP S t = none → look E2 t = look E t) (h : wantE l.toArray E g = some b) : wantE l.toArray E2 g = some b := by
  unfold wantE at h ⊢
  cases g with
  | none => exact h
  | some p =>
    obtain ⟨j, want⟩ := p
    simp only [guardSlot, List.getElem?_toArray] at hg h ⊢
    cases hd : (l[j]?).bind (·.dst) with
    | none => rw [hd] at h; exact h
    | some d =>
      rw [hd] at h hg
      simp only at h ⊢
      have : lookP S d = none := by
        simp only [noneS] at hg
        split at hg
        · cases hg
        · assumption
      rw [h2 d this]
      exact h

section
variable {P : Program} {T : List (Nat × TI)} {n : Nat} {l : List Oper} {m : Nat} {E : List (Nat × Value)} {w : World} {fin : List (Nat × Value) → List (Nat × Psi) → List (Nat × Psi) → Prop} {i : Nat} {X : List (Nat × Value)} {S H : List (Nat × Psi)} {o : Oper} {r : List Oper}

def runFL (T : List (Nat × TI)) (l : List Oper) (E : List (Nat × Value)) (S : List (Nat × Psi)) : Nat → Nat → List (Nat × Value) → List Oper → Nat × List (Nat × Value) × List Oper
  | 0, i, X, r => (i, X, r)
  | _ + 1, i, X, [] => (i, X, [])
  | k + 1, i, X, o :: r =>
    match o.dst, wantE l.toArray (envX X E (looks l o)) o.guard with
    | some d, some true =>
      bif noneS S (looks l o) then
        match pureOp T (envX X E (looks l o)) o.op with
        | some v => runFL T l E S k (i + 1) ((d, v) :: X) r
        | none => (i, X, o :: r)
      else (i, X, o :: r)
    | some d, some false => bif noneS S (guardSlot l o.guard) && !(isAlloc o.op) then runFL T l E S k (i + 1) ((d, undef) :: X) r else (i, X, o :: r)
    | _, _ => (i, X, o :: r)

theorem pure_noAlloc {E : List (Nat × Value)} {op : Op} {v : Value} (h : pureOp T E op = some v) : isAlloc op = false := by
  cases op <;> first | rfl | (simp [pureOp] at h)

theorem FL.run (hT : TblOk P T) : ∀ (k : Nat) {i i' : Nat} {X X' : List (Nat × Value)} {r r' : List Oper}, runFL T l E S k i X r = (i', X', r') → FL P n l m E w fin i' X' S H r' → FL P n l m E w fin i X S H r := by
  intro k
  induction k with
  | zero => intro i i' X X' r r' h hn; simp only [runFL, Prod.mk.injEq] at h; obtain ⟨rfl, rfl, rfl⟩ := h; exact hn
  | succ k ih =>
    intro i i' X X' r r' h hn
    cases r with
    | nil => simp only [runFL, Prod.mk.injEq] at h; obtain ⟨rfl, rfl, rfl⟩ := h; exact hn
    | cons o r =>
      simp only [runFL] at h
      split at h
      · rename_i d hd hw
        cases hb : noneS S (looks l o) with
        | false => rw [hb] at h; simp only [cond_false, Prod.mk.injEq] at h; obtain ⟨rfl, rfl, rfl⟩ := h; exact hn
        | true =>
          rw [hb] at h
          simp only [cond_true] at h
          split at h
          · rename_i v hv
            refine .inl ⟨d, v, hd, pure_noAlloc hv, fun w1 _ => obl_none hb (.inl ⟨hw, (OpR.pure hT hv).mono ?_⟩), ih h hn⟩
            rintro v' w' ⟨rfl, rfl⟩
            exact ⟨Ext.refl _, rfl⟩
          · simp only [Prod.mk.injEq] at h; obtain ⟨rfl, rfl, rfl⟩ := h; exact hn
      · rename_i d hd hw
        cases hb : (noneS S (guardSlot l o.guard) && !(isAlloc o.op)) with
        | false => rw [hb] at h; simp only [cond_false, Prod.mk.injEq] at h; obtain ⟨rfl, rfl, rfl⟩ := h; exact hn
        | true =>
          rw [hb] at h
          simp only [cond_true] at h
          simp only [Bool.and_eq_true, Bool.not_eq_true'] at hb
          refine .inl ⟨d, undef, hd, hb.2, fun w1 _ => obl_keep fun E2 h2 => .inr ⟨wantE_keep hb.1 h2 hw, Ext.refl _, rfl⟩, ih h hn⟩
      · simp only [Prod.mk.injEq] at h; obtain ⟨rfl, rfl, rfl⟩ := h; exact hn

/-- .. the last value written otherwise. -/
theorem FL.as (hT : TblOk P T) (k : Nat) {i i' : Nat} {X X' : List (Nat × Value)} {r r' : List Oper} {d : Nat} {v : Value} (v' : Value) (h : runFL T l E S k i X r = (i', (d, v) :: X', r')) (hv : v = v') (next : FL P n l m E w fin i' ((d, v') :: X') S H r') : FL P n l m E w fin i X S H r :=
  FL.run hT k (hv ▸ h) next

/-- One operation that yields a known value. -/
theorem FL.one {d : Nat} {v : Value} {L : List Nat} (hd : o.dst = some d) (hal : isAlloc o.op = false) (hS : noneS S (looks l o) = true) (hw : wantE l.toArray (envX X E (looks l o)) o.guard = some true) (hL : blocksOf E (later l m i) = L)
    (h : ∀ w1, Rg P (Tg w L) w w1 → RunsTo P n o (envX X E (looks l o)) w1 v) (next : FL P n l m E w fin (i + 1) ((d, v) :: X) S H r) : FL P n l m E w fin i X S H (o :: r) := by
  subst hL
  refine .inl ⟨d, v, hd, hal, fun w1 hR => obl_none hS (.inl ⟨hw, (h w1 hR).op.mono ?_⟩), next⟩
  rintro v' w' ⟨rfl, rfl⟩
  exact ⟨Ext.refl _, rfl⟩

/-- .. with an effect on new memory alone. -/
theorem FL.oneX {d : Nat} {v : Value} {L : List Nat} (hd : o.dst = some d) (hal : isAlloc o.op = false) (hS : noneS S (looks l o) = true) (hw : wantE l.toArray (envX X E (looks l o)) o.guard = some true) (hL : blocksOf E (later l m i) = L)
    (h : ∀ w1, Rg P (Tg w L) w w1 → OpR P n o (envX X E (looks l o)) w1 (fun v' w2 => Ext w1 w2 ∧ v' = v)) (next : FL P n l m E w fin (i + 1) ((d, v) :: X) S H r) : FL P n l m E w fin i X S H (o :: r) := by
  subst hL
  exact .inl ⟨d, v, hd, hal, fun w1 hR => obl_none hS (.inl ⟨hw, h w1 hR⟩), next⟩

/-- A cell of a variable. -/
theorem FL.load (hT : TblOk P T) {d : Nat} {t : TypeId} {x : Operand} {ty : TypeId} {pos : String} {af : Array Edge} {g : Option (Nat × Bool)} {ti : TI} {b off : Nat} {e : TypeId} {C : List Value} {v : Value} {L : List Nat}
    (hS : noneS S (looks l ⟨some d, .load t x, ty, pos, af, g⟩) = true) (hw : wantE l.toArray (envX X E (looks l ⟨some d, .load t x, ty, pos, af, g⟩)) g = some true) (hL : blocksOf E (later l m i) = L)
    (ht : lookT T t = some ti) (hag : isAggD ti.desc = false) (hx : ov (envX X E (looks l ⟨some d, .load t x, ty, pos, af, g⟩)) x = some (.pointer (some ⟨b, off, none⟩))) (hb : Blk e w b C) (hbL : b ∉ L) (hc : C[off]? = some v)
    (next : FL P n l m E w fin (i + 1) ((d, v) :: X) S H r) : FL P n l m E w fin i X S H (⟨some d, .load t x, ty, pos, af, g⟩ :: r) :=
  FL.one rfl rfl hS hw hL (fun _ hR => RunsTo.load hT ht hag hx ((hR.blk hb hbL).cell hc)) next

/-- A whole variable. -/
theorem FL.loadAgg (hT : TblOk P T) {d : Nat} {t : TypeId} {x : Operand} {ty : TypeId} {pos : String} {af : Array Edge} {g : Option (Nat × Bool)} {ti : TI} {b off : Nat} {e : TypeId} {C cs : List Value} {L : List Nat}
    (hS : noneS S (looks l ⟨some d, .load t x, ty, pos, af, g⟩) = true) (hw : wantE l.toArray (envX X E (looks l ⟨some d, .load t x, ty, pos, af, g⟩)) g = some true) (hL : blocksOf E (later l m i) = L)
    (ht : lookT T t = some ti) (hag : isAggD ti.desc = true) (hx : ov (envX X E (looks l ⟨some d, .load t x, ty, pos, af, g⟩)) x = some (.pointer (some ⟨b, off, none⟩))) (hb : Blk e w b C) (hbL : b ∉ L) (hle : off + ti.size ≤ C.length) (hcs : (C.drop off).take ti.size = cs)
    (next : FL P n l m E w fin (i + 1) ((d, .agg cs.toArray) :: X) S H r) : FL P n l m E w fin i X S H (⟨some d, .load t x, ty, pos, af, g⟩ :: r) :=
  FL.one rfl rfl hS hw hL (fun _ hR => RunsTo.loadAgg hT ht hag hx (hR.blk hb hbL) hle hcs) next

/-- What a call must be shown to do. -/
def CallF (P : Program) (f : FuncId) (args : Array Operand) (ψ : Psi) (w1 : World) (E2 : List (Nat × Value)) : Prop := ∃ vs, ovs E2 args.toList = some vs ∧ Calls P f vs.toArray w1 (Ret fun v w' => Ext w1 w' ∧ ψ v w')

theorem CallF.mk {f : FuncId} {args : Array Operand} {ψ : Psi} {w1 : World} {E2 : List (Nat × Value)} {vs : List Value} (h : ovs E2 args.toList = some vs) (hc : Calls P f vs.toArray w1 (Ret fun v w' => Ext w1 w' ∧ ψ v w')) : CallF P f args ψ w1 E2 := ⟨vs, h, hc⟩

theorem obl_mono {S : List (Nat × Psi)} {w : World} {k k' : List (Nat × Value) → Prop} (hk : ∀ E, k E → k' E) : ∀ {ts : List Nat} {E : List (Nat × Value)}, obl S ts E w k → obl S ts E w k' := by
  intro ts
  induction ts with
  | nil => intro E h; exact hk E h
  | cons t r ih =>
    intro E h
    unfold obl at h ⊢
    split
    · rename_i ψ hl
      rw [hl] at h
      exact fun v hv => ih (h v hv)
    · rename_i hl
      rw [hl] at h
      exact ih h

theorem obl_and {S : List (Nat × Psi)} {w : World} {k k' : List (Nat × Value) → Prop} : ∀ {ts : List Nat} {E : List (Nat × Value)}, obl S ts E w k → obl S ts E w k' → obl S ts E w (fun E2 => k E2 ∧ k' E2) := by
  intro ts
  induction ts with
  | nil => intro E h h'; exact ⟨h, h'⟩
  | cons t r ih =>
    intro E h h'
    unfold obl at h h' ⊢
    split
    · rename_i ψ hl
      rw [hl] at h h'
      exact fun v hv => ih (h v hv) (h' v hv)
    · rename_i hl
      rw [hl] at h h'
      exact ih h h'

/-- A call whose result is known by a fact. -/
theorem FL.call {f : FuncId} {fn : Func} (hF : IsFn P f fn) {d : Nat} {args : Array Operand} {tys : Array TypeId} {ty : TypeId} {pos : String} {af : Array Edge} {g : Option (Nat × Bool)} {ψ : Psi} {L : List Nat}
    (hg : noneS S (guardSlot l g) = true) (hw : wantE l.toArray (envX X E (looks l ⟨some d, .call ⟨.value (.func f), args, tys⟩, ty, pos, af, g⟩)) g = some true) (hL : blocksOf E (later l m i) = L)
    (h : ∀ w1, Rg P (Tg w L) w w1 → obl S (looks l ⟨some d, .call ⟨.value (.func f), args, tys⟩, ty, pos, af, g⟩) (envX X E (looks l ⟨some d, .call ⟨.value (.func f), args, tys⟩, ty, pos, af, g⟩)) w1 (CallF P f args ψ w1))
    (hmono : MonoR P ψ) (next : FL P n l m E w fin (i + 1) X ((d, ψ) :: S) H r) : FL P n l m E w fin i X S H (⟨some d, .call ⟨.value (.func f), args, tys⟩, ty, pos, af, g⟩ :: r) := by
  subst hL
  refine .inr (.inl ⟨d, ψ, rfl, hmono, fun w1 hR => obl_mono ?_ (obl_and (h w1 hR) (obl_keep fun E2 h2 => wantE_keep hg h2 hw)), next⟩)
  rintro E2 ⟨⟨vs, hvs, hc⟩, hw2⟩
  refine .inl ⟨hw2, (OpR.call hF hvs hc).mono ?_⟩
  intro v w2 hv
  exact ⟨hv.1, hv.2, fun e => by cases e⟩

/-- A call whose result is known. -/
theorem FL.callX {f : FuncId} {fn : Func} (hF : IsFn P f fn) {d : Nat} {args : Array Operand} {tys : Array TypeId} {ty : TypeId} {pos : String} {af : Array Edge} {g : Option (Nat × Bool)} {c : Value} {L : List Nat}
    (hg : noneS S (guardSlot l g) = true) (hw : wantE l.toArray (envX X E (looks l ⟨some d, .call ⟨.value (.func f), args, tys⟩, ty, pos, af, g⟩)) g = some true) (hL : blocksOf E (later l m i) = L)
    (h : ∀ w1, Rg P (Tg w L) w w1 → obl S (looks l ⟨some d, .call ⟨.value (.func f), args, tys⟩, ty, pos, af, g⟩) (envX X E (looks l ⟨some d, .call ⟨.value (.func f), args, tys⟩, ty, pos, af, g⟩)) w1 (CallF P f args (Is c) w1))
    (next : FL P n l m E w fin (i + 1) ((d, c) :: X) S H r) : FL P n l m E w fin i X S H (⟨some d, .call ⟨.value (.func f), args, tys⟩, ty, pos, af, g⟩ :: r) := by
  subst hL
  refine .inl ⟨d, c, rfl, rfl, fun w1 hR => obl_mono ?_ (obl_and (h w1 hR) (obl_keep fun E2 h2 => wantE_keep hg h2 hw)), next⟩
  rintro E2 ⟨⟨vs, hvs, hc⟩, hw2⟩
  exact .inl ⟨hw2, OpR.call hF hvs hc⟩

theorem FL.callE {f : FuncId} {fn : Func} (hF : IsFn P f fn) {d : Nat} {args : Array Operand} {tys : Array TypeId} {ty : TypeId} {pos : String} {af : Array Edge} {g : Option (Nat × Bool)} {ψ : Psi}
    (hg : noneS S (guardSlot l g) = true) (hw : wantE l.toArray (envX X E (looks l ⟨some d, .call ⟨.value (.func f), args, tys⟩, ty, pos, af, g⟩)) g = some true) (hL : blocksOf E (later l m i) = [])
    (h : ∀ w1, Ext w w1 → obl S (looks l ⟨some d, .call ⟨.value (.func f), args, tys⟩, ty, pos, af, g⟩) (envX X E (looks l ⟨some d, .call ⟨.value (.func f), args, tys⟩, ty, pos, af, g⟩)) w1 (CallF P f args ψ w1))
    (hmono : MonoR P ψ) (next : FL P n l m E w fin (i + 1) X ((d, ψ) :: S) H r) : FL P n l m E w fin i X S H (⟨some d, .call ⟨.value (.func f), args, tys⟩, ty, pos, af, g⟩ :: r) :=
  FL.call hF hg hw hL (fun w1 hR => h w1 hR.ext_nil) hmono next

theorem FL.callXE {f : FuncId} {fn : Func} (hF : IsFn P f fn) {d : Nat} {args : Array Operand} {tys : Array TypeId} {ty : TypeId} {pos : String} {af : Array Edge} {g : Option (Nat × Bool)} {c : Value}
    (hg : noneS S (guardSlot l g) = true) (hw : wantE l.toArray (envX X E (looks l ⟨some d, .call ⟨.value (.func f), args, tys⟩, ty, pos, af, g⟩)) g = some true) (hL : blocksOf E (later l m i) = [])
    (h : ∀ w1, Ext w w1 → obl S (looks l ⟨some d, .call ⟨.value (.func f), args, tys⟩, ty, pos, af, g⟩) (envX X E (looks l ⟨some d, .call ⟨.value (.func f), args, tys⟩, ty, pos, af, g⟩)) w1 (CallF P f args (Is c) w1))
    (next : FL P n l m E w fin (i + 1) ((d, c) :: X) S H r) : FL P n l m E w fin i X S H (⟨some d, .call ⟨.value (.func f), args, tys⟩, ty, pos, af, g⟩ :: r) :=
  FL.callX hF hg hw hL (fun w1 hR => h w1 hR.ext_nil) next

/-- Any operation whose result is known by a fact. -/
theorem FL.fact {d : Nat} {ψ : Psi} {L : List Nat} (hd : o.dst = some d) (hal : isAlloc o.op = false) (hg : noneS S (guardSlot l o.guard) = true) (hw : wantE l.toArray (envX X E (looks l o)) o.guard = some true) (hL : blocksOf E (later l m i) = L)
    (h : ∀ w1, Rg P (Tg w L) w w1 → obl S (looks l o) (envX X E (looks l o)) w1 (fun E2 => OpR P n o E2 w1 (fun v w2 => Ext w1 w2 ∧ ψ v w2)))
    (hmono : MonoR P ψ) (next : FL P n l m E w fin (i + 1) X ((d, ψ) :: S) H r) : FL P n l m E w fin i X S H (o :: r) := by
  subst hL
  refine .inr (.inl ⟨d, ψ, hd, hmono, fun w1 hR => obl_mono ?_ (obl_and (h w1 hR) (obl_keep fun E2 h2 => wantE_keep hg h2 hw)), next⟩)
  rintro E2 ⟨h1, hw2⟩
  refine .inl ⟨hw2, h1.mono ?_⟩
  intro v w2 hv
  exact ⟨hv.1, hv.2, fun e => by rw [hal] at e; cases e⟩

/-- The same, where it is known whatever its operands are. -/
theorem FL.exact {d : Nat} {c : Value} {L : List Nat} (hd : o.dst = some d) (hal : isAlloc o.op = false) (hg : noneS S (guardSlot l o.guard) = true) (hw : wantE l.toArray (envX X E (looks l o)) o.guard = some true) (hL : blocksOf E (later l m i) = L)
    (h : ∀ w1, Rg P (Tg w L) w w1 → obl S (looks l o) (envX X E (looks l o)) w1 (fun E2 => OpR P n o E2 w1 (fun v w2 => Ext w1 w2 ∧ v = c)))
    (next : FL P n l m E w fin (i + 1) ((d, c) :: X) S H r) : FL P n l m E w fin i X S H (o :: r) := by
  subst hL
  refine .inl ⟨d, c, hd, hal, fun w1 hR => obl_mono ?_ (obl_and (h w1 hR) (obl_keep fun E2 h2 => wantE_keep hg h2 hw)), next⟩
  rintro E2 ⟨h1, hw2⟩
  exact .inl ⟨hw2, h1⟩

theorem RunsTo.ext {v : Value} {w1 : World} {E2 : List (Nat × Value)} (h : RunsTo P n o E2 w1 v) {ψ : Psi} (hψ : ψ v w1) : OpR P n o E2 w1 (fun v' w2 => Ext w1 w2 ∧ ψ v' w2) := by
  refine h.op.mono ?_
  rintro v' w' ⟨rfl, rfl⟩
  exact ⟨Ext.refl _, hψ⟩

/-- A new variable: a pointer to it. -/
def NewVar (base : Nat) (t : TypeId) (len : Nat) : Psi := fun v w => ∃ b C, v = .pointer (some ⟨b, 0, none⟩) ∧ base ≤ b ∧ Blk t w b C ∧ C.length = len

theorem MonoR.newVar (base : Nat) (t : TypeId) (len : Nat) : MonoR P (NewVar base t len) := by
  rintro v w w' hR ⟨b, C, rfl, h0, hb, hl⟩
  obtain ⟨C', hb', hl'⟩ := hR.blk_any hb
  exact ⟨b, C', rfl, h0, hb', hl'.trans hl⟩

theorem FL.alloc (hT : TblOk P T) {d : Nat} {t : TypeId} {ty : TypeId} {pos : String} {af : Array Edge} {g : Option (Nat × Bool)} {ti : TI} {len : Nat} (hS : noneS S (looks l ⟨some d, .alloc t, ty, pos, af, g⟩) = true) (hw : wantE l.toArray (envX X E (looks l ⟨some d, .alloc t, ty, pos, af, g⟩)) g = some true)
    (ht : lookT T t = some ti) (hlen : ti.zero.cells.toList.length = len) (next : FL P n l m E w fin (i + 1) X ((d, NewVar w.heap.size t len) :: S) H r) : FL P n l m E w fin i X S H (⟨some d, .alloc t, ty, pos, af, g⟩ :: r) := by
  refine .inr (.inl ⟨d, _, rfl, MonoR.newVar _ _ _, fun w1 hR => obl_none hS (.inl ⟨hw, (OpR.alloc hT ht).mono ?_⟩), next⟩)
  rintro v w2 ⟨rfl, hb, hx, hs⟩
  exact ⟨hx, ⟨_, _, rfl, hR.size, hb, hlen⟩, fun _ => ⟨_, rfl, Nat.le_refl _, by omega⟩⟩

theorem over_full : ∀ (vs A C : List Value), C.length = vs.length → over (A ++ C) A.length vs = A ++ vs := by
  intro vs
  induction vs with
  | nil => intro A C h; simp only [List.length_nil] at h; rw [List.eq_nil_of_length_eq_zero h]; rfl
  | cons v r ih =>
    intro A C h
    cases C with
    | nil => simp at h
    | cons c C =>
      have := ih (A ++ [v]) C (by simpa using h)
      simp only [over]
      simp only [List.length_append, List.length_cons, List.length_nil, List.append_assoc, List.singleton_append] at this
      simpa using this

theorem OpR.storeAll (hT : TblOk P T) {E2 : List (Nat × Value)} {w1 : World} {t : TypeId} {x y : Operand} {ty : TypeId} {pos : String} {af : Array Edge} {g : Option (Nat × Bool)} {ti : TI} {b : Nat} {C : List Value} {v : Value}
    (ht : lookT T t = some ti) (hag : isAggD ti.desc = true) (hx : ov E2 x = some (.pointer (some ⟨b, 0, none⟩))) (hy : ov E2 y = some v) (hsz : v.cells.toList.length = ti.size) (hC : C.length = ti.size) (h1 : ∀ u ∈ v.cells.toList, u.oneCell' = true) (hb : Blk t w1 b C) :
    OpR P n ⟨none, .store t x y, ty, pos, af, g⟩ E2 w1 (fun _ w2 => Blk t w2 b v.cells.toList ∧ Upd b w1 w2 ∧ VarKept P b w1 w2) := by
  refine (OpR.store hT ht hx hy rfl hsz hb (by omega) h1).mono ?_
  rintro _ w2 ⟨hb2, hu⟩
  have := over_full v.cells.toList [] C (by omega)
  simp only [List.nil_append, List.length_nil] at this
  rw [this] at hb2
  refine ⟨hb2, hu, C, _, t, ?_, by omega, hb, hb2⟩
  have hu := (hT t ti ht).1
  unfold isV
  rw [hu]
  cases hd : ti.desc <;> simp [isAggD, hd] at hag ⊢

/-- A store into a variable, of a value known by a fact; into one that was there before. -/
theorem FL.store (hT : TblOk P T) {t : TypeId} {p s : Nat} {ty : TypeId} {pos : String} {af : Array Edge} {g : Option (Nat × Bool)} {ti : TI} {L : List Nat} {ψ : Psi} {b : Nat} {C : List Value}
    (hg : noneS S (guardSlot l g) = true) (hw : wantE l.toArray (envX X E (looks l ⟨none, .store t (.tmp p) (.tmp s), ty, pos, af, g⟩)) g = some true) (hL : blocksOf E (later l m i) = L)
    (ht : lookT T t = some ti) (hag : isAggD ti.desc = true) (hb : Blk t w b C) (hC : C.length = ti.size) (hmono : MonoR P ψ)
    (h : ∀ w1, Rg P (Tg w L) w w1 → obl S (looks l ⟨none, .store t (.tmp p) (.tmp s), ty, pos, af, g⟩) (envX X E (looks l ⟨none, .store t (.tmp p) (.tmp s), ty, pos, af, g⟩)) w1 (fun E2 => look E2 p = some (.pointer (some ⟨b, 0, none⟩)) ∧ ∃ v, look E2 s = some v ∧ v.cells.toList.length = ti.size ∧ (∀ u ∈ v.cells.toList, u.oneCell' = true) ∧ ψ v w1))
    (next : FL P n l m E w fin (i + 1) X S ((p, Holds t ψ) :: H) r) : FL P n l m E w fin i X S H (⟨none, .store t (.tmp p) (.tmp s), ty, pos, af, g⟩ :: r) := by
  subst hL
  refine .inr (.inr ⟨p, _, rfl, MonoX.holds hmono, fun w1 hR => obl_mono ?_ (obl_and (h w1 hR) (obl_keep fun E2 h2 => wantE_keep hg h2 hw)), next⟩)
  rintro E2 ⟨⟨hp, v, hv, hsz, h1, hψ⟩, hw2⟩
  obtain ⟨C', hb', hl'⟩ := hR.blk_any hb
  refine .inl ⟨hw2, (OpR.storeAll (x := .tmp p) (y := .tmp s) hT ht hag hp hv hsz (by omega) h1 hb').mono ?_⟩
  rintro _ w2 ⟨hb2, hu, hvk⟩
  exact ⟨b, hp, hu, hvk, b, v, rfl, hb2, hmono v w1 w2 (Rg.of_upd hu hvk trivial) hψ⟩

/-- .. into one that is new. -/
theorem FL.storeN (hT : TblOk P T) {t : TypeId} {p s : Nat} {ty : TypeId} {pos : String} {af : Array Edge} {g : Option (Nat × Bool)} {ti : TI} {L : List Nat} {ψ : Psi} {base : Nat}
    (hg : noneS S (guardSlot l g) = true) (hw : wantE l.toArray (envX X E (looks l ⟨none, .store t (.tmp p) (.tmp s), ty, pos, af, g⟩)) g = some true) (hL : blocksOf E (later l m i) = L)
    (ht : lookT T t = some ti) (hag : isAggD ti.desc = true) (hmono : MonoR P ψ)
    (h : ∀ w1, Rg P (Tg w L) w w1 → obl S (looks l ⟨none, .store t (.tmp p) (.tmp s), ty, pos, af, g⟩) (envX X E (looks l ⟨none, .store t (.tmp p) (.tmp s), ty, pos, af, g⟩)) w1 (fun E2 => (∃ u, look E2 p = some u ∧ NewVar base t ti.size u w1) ∧ ∃ v, look E2 s = some v ∧ v.cells.toList.length = ti.size ∧ (∀ u ∈ v.cells.toList, u.oneCell' = true) ∧ ψ v w1))
    (next : FL P n l m E w fin (i + 1) X S ((p, Holds t ψ) :: H) r) : FL P n l m E w fin i X S H (⟨none, .store t (.tmp p) (.tmp s), ty, pos, af, g⟩ :: r) := by
  subst hL
  refine .inr (.inr ⟨p, _, rfl, MonoX.holds hmono, fun w1 hR => obl_mono ?_ (obl_and (h w1 hR) (obl_keep fun E2 h2 => wantE_keep hg h2 hw)), next⟩)
  rintro E2 ⟨⟨⟨u, hp, b, C, rfl, h0, hb', hl'⟩, v, hv, hsz, h1, hψ⟩, hw2⟩
  refine .inl ⟨hw2, (OpR.storeAll (x := .tmp p) (y := .tmp s) hT ht hag hp hv hsz hl' h1 hb').mono ?_⟩
  rintro _ w2 ⟨hb2, hu, hvk⟩
  exact ⟨b, hp, hu, hvk, b, v, rfl, hb2, hmono v w1 w2 (Rg.of_upd hu hvk trivial) hψ⟩

theorem FL.end {Q : Exit → Act → World → Prop} {L : List Nat} (hL : blocksOf E (stSlots (l.take m)) = L) (h : ∀ w1, Rg P (Tg w L) w w1 → allP S (X ++ E) w1 (fun E2 => heldP E2 w1 H → Dist (allocs (l.take m)) E2 → StL P n E2 w1 l.toArray (l.drop m) Q)) : FL P n l m E w (FlowEnd P n l m E w Q) i X S H [] := by
  subst hL
  exact h

theorem FL.endE {Q : Exit → Act → World → Prop} (hL : blocksOf E (stSlots (l.take m)) = []) (h : ∀ w1, Ext w w1 → allP S (X ++ E) w1 (fun E2 => heldP E2 w1 H → Dist (allocs (l.take m)) E2 → StL P n E2 w1 l.toArray (l.drop m) Q)) : FL P n l m E w (FlowEnd P n l m E w Q) i X S H [] :=
  FL.end hL fun w1 hR => h w1 hR.ext_nil

end
end Go.Qf

/- integer.Small, Int64, addSigned, Add, Sub. -/
namespace Go.Qf
open Go Go.RowKit Go.Proofs

/-- The struct v has this sign and these limbs. -/
def Den (w : World) (v : Value) (neg : Bool) (xs : List Nat) : Prop := ∃ p cap, v = IntV neg (.slice p xs.length cap) ∧ Sl w (.slice p xs.length cap) xs

/-- The integer with a sign and an absolute value. -/
def sg (neg : Bool) (m : Nat) : Int := if neg then -(m : Int) else m

/-- The canonical struct of the integer a, its limbs nil or at the head of a block from base on. -/
def CanO (base : Nat) (w : World) (v : Value) (a : Int) : Prop := ∃ p cap, v = IntV (decide (a < 0)) (.slice p (limbs a.natAbs).length cap) ∧ SlO base w (.slice p (limbs a.natAbs).length cap) (limbs a.natAbs)
/-- .. wherever. -/
abbrev Can (w : World) (v : Value) (a : Int) : Prop := CanO 0 w v a

theorem Den.ext {w w' : World} {v : Value} {neg : Bool} {xs : List Nat} (h : Den w v neg xs) (hx : Ext w w') : Den w' v neg xs := by
  obtain ⟨p, cap, hv, hs⟩ := h
  exact ⟨p, cap, hv, hs.ext hx⟩
theorem CanO.ext {base : Nat} {w w' : World} {v : Value} {a : Int} (h : CanO base w v a) (hx : Ext w w') : CanO base w' v a := by
  obtain ⟨p, cap, hv, hs⟩ := h
  exact ⟨p, cap, hv, hs.ext hx⟩
theorem Can.ext {w w' : World} {v : Value} {a : Int} (h : Can w v a) (hx : Ext w w') : Can w' v a := CanO.ext h hx
theorem CanO.mono {base base' : Nat} {w : World} {v : Value} {a : Int} (h : CanO base w v a) (hb : base' ≤ base) : CanO base' w v a := by
  obtain ⟨p, cap, hv, hs⟩ := h
  exact ⟨p, cap, hv, hs.mono hb⟩
theorem CanO.can {base : Nat} {w : World} {v : Value} {a : Int} (h : CanO base w v a) : Can w v a := h.mono (Nat.zero_le _)
theorem Can.den {w : World} {v : Value} {a : Int} (h : Can w v a) : Den w v (decide (a < 0)) (limbs a.natAbs) := by
  obtain ⟨p, cap, hv, hs⟩ := h
  exact ⟨p, cap, hv, hs.sl⟩
theorem Den.lim {w : World} {v : Value} {neg : Bool} {xs : List Nat} (h : Den w v neg xs) : Lim xs := by
  obtain ⟨_, _, _, hs⟩ := h
  exact hs.2

theorem sg_abs (neg : Bool) (m : Nat) : (sg neg m).natAbs = m := by
  cases neg <;> simp [sg]

theorem sg_canon (a : Int) : sg (decide (a < 0)) a.natAbs = a := by
  unfold sg
  by_cases h : a < 0
  · simp [h]; omega
  · simp [h]; omega

/-- What build hands back, as an integer. -/
def builtV (neg : Bool) (m : Nat) (sl : Value) : Value := if limbs m = [] then IntV false (.slice none 0 0) else IntV neg sl

theorem sl_nil (w : World) : Sl w (.slice none 0 0) [] := (SlO.nil 0 w).sl

theorem canO_built {base : Nat} {w : World} {sl : Value} {m : Nat} (neg : Bool) (h : SlO base w sl (limbs m)) : CanO base w (builtV neg m sl) (sg neg m) := by
  unfold builtV CanO
  rw [sg_abs]
  by_cases h0 : m = 0
  · subst h0
    have e : sg neg 0 = 0 := by cases neg <;> rfl
    rw [e, limbs_zero, if_pos rfl]
    exact ⟨none, 0, rfl, SlO.nil _ w⟩
  · rw [if_neg (fun e => h0 (limbs_eq_nil.1 e))]
    obtain ⟨p, cap, rfl, _⟩ := h.sl.form
    refine ⟨p, cap, ?_, h⟩
    have : decide (sg neg m < 0) = neg := by
      cases neg
      · exact decide_eq_false (by simp [sg])
      · exact decide_eq_true (by simp [sg]; omega)
    rw [this]

theorem build_specO {base : Nat} (w : World) (neg : Bool) (sl : Value) (m : Nat) (h : SlO base w sl (limbs m)) (hlen : (limbs m).length ≤ 1000000000) :
    Calls Try.prog 60 #[.bool neg, sl] w (Ret fun r w' => Ext w w' ∧ CanO base w' r (sg neg m)) := by
  refine (build_spec w neg sl (limbs m) h.sl hlen).mono ?_
  rintro e w' ⟨r, rfl, hx, hr⟩
  refine ⟨r, rfl, hx, ?_⟩
  have := canO_built neg (h.ext hx)
  unfold builtV at this
  rw [hr]
  exact this

theorem build_spec' {base : Nat} (w : World) (neg : Bool) (sl : Value) (m : Nat) (h : SlO base w sl (limbs m)) (hlen : (limbs m).length ≤ 1000000000) :
    Calls Try.prog 60 #[.bool neg, sl] w (Ret fun r w' => Ext w w' ∧ Can w' r (sg neg m)) := by
  refine (build_specO w neg sl m h hlen).mono ?_
  rintro e w' ⟨r, rfl, hx, hr⟩
  exact ⟨r, rfl, hx, hr.can⟩

theorem CanO.cells {base : Nat} {w : World} {v : Value} {a : Int} (h : CanO base w v a) : ∃ p cap, v = .agg #[.bool (decide (a < 0)), .slice p (limbs a.natAbs).length cap] ∧ SlO base w (.slice p (limbs a.natAbs).length cap) (limbs a.natAbs) := h

/-- A struct result, stored into the variable that the function hands back. -/
theorem StL.retCan {base n : Nat} {E : List (Nat × Value)} {w w0 : World} {ops : Array Oper} {rest : List Oper} {Q : Exit → Act → World → Prop} {t s : Nat} {ty : TypeId} {pos : String} {af : Array Edge} {b : Nat} {C : List Value} {v : Value} {a : Int}
    (ht : look E t = some (.pointer (some ⟨b, 0, none⟩))) (hs : look E s = some v) (hb : Blk 24 w b C) (hC : C.length = 2) (hv : CanO base w v a) (hx : Ext w0 w) (hb0 : w0.heap.size ≤ b)
    (next : ∀ w' cs, v = .agg cs.toArray → cs.length = 2 → Blk 24 w' b cs → Upd b w w' → Ext w0 w' → StL Try.prog n E w' ops rest Q) :
    StL Try.prog n E w ops (⟨none, .store 24 (.tmp t) (.tmp s), ty, pos, af, none⟩ :: rest) Q := by
  obtain ⟨p, cap, rfl, _⟩ := hv.cells
  refine StL.step0 rfl rfl (OpR.store TBok (vs := [.bool (decide (a < 0)), .slice p (limbs a.natAbs).length cap]) rfl ht hs rfl rfl hb (by simp [hC]) (by simp [Value.oneCell'])) ?_
  rintro _ w' ⟨hb', hu⟩
  match C, hC with
  | [c0, c1], _ => exact next w' _ rfl rfl hb' hu (hx.then_upd hu hb0)

/-- The struct's block is not the variable's. -/
theorem Own.upd {base b : Nat} {e : TypeId} {w w' : World} {v : Value} {cs : List Value} (h : Own base e w v cs) (hu : Upd b w w') (hne : ∀ g cap, v = .slice (some ⟨g, 0, none⟩) cs.length cap → g ≠ b) : Own base e w' v cs := by
  refine ⟨h.1, ?_⟩
  rcases h.2 with h0 | ⟨g, cap, cur, hv, hb, hg, r⟩
  · exact .inl h0
  · exact .inr ⟨g, cap, cur, hv, hb, (hu.block g (Array.getElem?_eq_some_iff.1 hg).1 (hne g cap hv)).trans hg, r⟩

/-- A block of another type has changed. -/
theorem Own.updT {base b : Nat} {e t : TypeId} {w w' : World} {v : Value} {cs C : List Value} (h : Own base e w v cs) (hu : Upd b w w') (hb : Blk t w b C) (hne : e ≠ t) : Own base e w' v cs := by
  refine h.upd hu ?_
  intro g cap hv hgb
  subst hgb
  rcases h.2 with ⟨h0, _⟩ | ⟨g', cap', cur, hv', _, hg, _⟩
  · rw [h0] at hv; cases hv
  · rw [hv] at hv'
    simp only [Value.slice.injEq, Option.some.injEq, Addr.mk.injEq] at hv'
    obtain ⟨⟨rfl, _⟩, _⟩ := hv'
    unfold Blk at hb
    rw [hb] at hg
    simp only [Option.some.injEq, Obj.cells.injEq] at hg
    exact hne hg.2.1.symm

theorem CanO.upd {base : Nat} {w w' : World} {v : Value} {a : Int} {b : Nat} (h : CanO base w v a) (hu : Upd b w w') (hb : ∃ C, Blk 24 w b C) : CanO base w' v a := by
  obtain ⟨p, cap, hv, hs⟩ := h
  obtain ⟨C, hC⟩ := hb
  exact ⟨p, cap, hv, Own.updT hs.1 hu hC (by decide), hs.2⟩
theorem Can.upd {w w' : World} {v : Value} {a : Int} {b : Nat} (h : Can w v a) (hu : Upd b w w') (hb : ∃ C, Blk 24 w b C) : Can w' v a := CanO.upd h hu hb

theorem notV : isV Try.prog 41 = false := by
  unfold isV
  rw [Try.underlying41]
theorem SlO.rg {base : Nat} {T : Nat → Prop} {w w' : World} {v : Value} {xs : List Nat} (h : SlO base w v xs) (hR : Rg Try.prog T w w') : SlO base w' v xs := ⟨hR.own notV h.1, h.2⟩
theorem CanO.rg {base : Nat} {T : Nat → Prop} {w w' : World} {v : Value} {a : Int} (h : CanO base w v a) (hR : Rg Try.prog T w w') : CanO base w' v a := by
  obtain ⟨p, cap, hv, hs⟩ := h
  exact ⟨p, cap, hv, hs.rg hR⟩
theorem MonoR.canO (base : Nat) (a : Int) : MonoR Try.prog (fun v w => CanO base w v a) := fun _ _ _ hR h => h.rg hR
theorem MonoR.slO (base : Nat) (xs : List Nat) : MonoR Try.prog (fun v w => SlO base w v xs) := fun _ _ _ hR h => h.rg hR

/-- Canonical structs are two cells. -/
theorem CanO.two {base : Nat} {w : World} {v : Value} {a : Int} (h : CanO base w v a) : v.cells.toList.length = 2 ∧ ∀ u ∈ v.cells.toList, u.oneCell' = true := by
  obtain ⟨p, cap, rfl, _⟩ := h
  exact ⟨rfl, by simp [IntV, Value.cells, Value.oneCell']⟩

set_option maxRecDepth 4000 in
theorem small_spec (w : World) (a : Int) (h0 : -9223372036854775808 ≤ a) (h1 : a ≤ 9223372036854775807) :
    Calls Try.prog 23 #[.int .i64 a] w (Ret fun r w' => Ext w w' ∧ Can w' r a) := by
  refine calls_of_St (args := [_]) Try.func23 rfl Try.ntmps23 rfl ?_
  (repeat with_reducible first|refine .nil ?_|refine .then_normal ?_|refine .block_normal ?_|refine .seq ?_|refine .block ?_|refine .skip ?_|refine .region ?_|refine .ret ?_|refine .then_ret ?_|refine .block_ret ?_|refine .exit ?_|refine .then_exit ?_|refine .block_exit ?_|refine .block_other rfl ?_)
  refine StL.step rfl rfl rfl (OpR.alloc TBok rfl) ?_
  rintro _ w1 ⟨rfl, hb, hx1, _⟩
  (iterate 6 ((repeat with_reducible first|refine .nil ?_|refine .then_normal ?_|refine .block_normal ?_|refine .seq ?_|refine .block ?_|refine .skip ?_|refine .region ?_|refine .ret ?_|refine .then_ret ?_|refine .block_ret ?_|refine .exit ?_|refine .then_exit ?_|refine .block_exit ?_|refine .block_other rfl ?_); try refine .run TBok 99 rfl ?_))
  by_cases hneg : a < 0
  · refine St.condT rfl (by simp; omega) ?_
    (iterate 6 ((repeat with_reducible first|refine .nil ?_|refine .then_normal ?_|refine .block_normal ?_|refine .seq ?_|refine .block ?_|refine .skip ?_|refine .region ?_|refine .ret ?_|refine .then_ret ?_|refine .block_ret ?_|refine .exit ?_|refine .then_exit ?_|refine .block_exit ?_|refine .block_other rfl ?_); try refine .run TBok 99 rfl ?_))
    obtain ⟨m, hm⟩ : ∃ m : Nat, a = -(m : Int) := ⟨a.natAbs, by omega⟩
    subst hm
    refine StL.as TBok 1 (.int .u64 (m : Int)) rfl (by congr 1; simp only [wrap_u64]; omega) ?_
    refine StL.step rfl rfl rfl (OpR.call fn_integer_fromWord rfl (fromWord_spec w1 m (by omega))) ?_
    rintro sl w2 ⟨hx2, hsl⟩
    have hll := limbs_length_le_two (m := m) (by omega)
    refine StL.step rfl rfl rfl (OpR.call fn_integer_build rfl (build_spec' w2 true sl m hsl (by omega))) ?_
    rintro v w3 ⟨hx3, hv⟩
    refine StL.retCan rfl rfl ((hb.ext hx2).ext hx3) rfl hv ((hx1.trans hx2).trans hx3) (Nat.le_refl _) ?_
    intro w4 cs hcs hl hb4 hu4 hx4
    (iterate 6 ((repeat with_reducible first|refine .nil ?_|refine .then_normal ?_|refine .block_normal ?_|refine .seq ?_|refine .block ?_|refine .skip ?_|refine .region ?_|refine .ret ?_|refine .then_ret ?_|refine .block_ret ?_|refine .exit ?_|refine .then_exit ?_|refine .block_exit ?_|refine .block_other rfl ?_); try refine .run TBok 99 rfl ?_))
    refine Out.rets TBok [v] rfl ⟨⟨_, _, _, _, rfl, hb4, rfl, rfl, hl, hcs⟩, trivial⟩ ⟨hx4, ?_⟩
    exact Can.upd hv hu4 ⟨_, (hb.ext hx2).ext hx3⟩
  · refine St.condF rfl (by simp; omega) ?_
    (iterate 6 ((repeat with_reducible first|refine .nil ?_|refine .then_normal ?_|refine .block_normal ?_|refine .seq ?_|refine .block ?_|refine .skip ?_|refine .region ?_|refine .ret ?_|refine .then_ret ?_|refine .block_ret ?_|refine .exit ?_|refine .then_exit ?_|refine .block_exit ?_|refine .block_other rfl ?_); try refine .run TBok 99 rfl ?_))
    obtain ⟨m, rfl⟩ : ∃ m : Nat, a = (m : Int) := ⟨a.natAbs, by omega⟩
    refine StL.as TBok 1 (.int .u64 (m : Int)) rfl (by rw [u64_id (by omega) (by omega)]) ?_
    refine StL.step rfl rfl rfl (OpR.call fn_integer_fromWord rfl (fromWord_spec w1 m (by omega))) ?_
    rintro sl w2 ⟨hx2, hsl⟩
    have hll := limbs_length_le_two (m := m) (by omega)
    refine StL.step rfl rfl rfl (OpR.call fn_integer_build rfl (build_spec' w2 false sl m hsl (by omega))) ?_
    rintro v w3 ⟨hx3, hv⟩
    refine StL.retCan rfl rfl ((hb.ext hx2).ext hx3) rfl hv ((hx1.trans hx2).trans hx3) (Nat.le_refl _) ?_
    intro w4 cs hcs hl hb4 hu4 hx4
    (iterate 6 ((repeat with_reducible first|refine .nil ?_|refine .then_normal ?_|refine .block_normal ?_|refine .seq ?_|refine .block ?_|refine .skip ?_|refine .region ?_|refine .ret ?_|refine .then_ret ?_|refine .block_ret ?_|refine .exit ?_|refine .then_exit ?_|refine .block_exit ?_|refine .block_other rfl ?_); try refine .run TBok 99 rfl ?_))
    refine Out.rets TBok [v] rfl ⟨⟨_, _, _, _, rfl, hb4, rfl, rfl, hl, hcs⟩, trivial⟩ ⟨hx4, ?_⟩
    exact Can.upd hv hu4 ⟨_, (hb.ext hx2).ext hx3⟩

/-- '==' and '!=' on bools. -/
theorem RunsTo.boolEq {P : Program} {T : List (Nat × TI)} {n : Nat} {E : List (Nat × Value)} {w : World} (hT : TblOk P T) {d : Option Tmp} {t t2 : TypeId} {x y : Operand} {ty : TypeId} {pos : String} {af : Array Edge} {g : Option (Nat × Bool)} {s1 s2 : Nat} {z : Value} {a b : Bool} (ht : lookT T t = some ⟨.bool, s1, s2, z⟩) (hx : ov E x = some (.bool a)) (hy : ov E y = some (.bool b)) :
    RunsTo P n ⟨d, .binOp .eql t x y t2, ty, pos, af, g⟩ E w (.bool (a == b)) := by
  intro f hf
  have e1 := hf.eval hx
  have e2 := hf.eval hy
  generalize f.eval = ρ at e1 e2
  have heq : (Op.equal t (.bool a) (.bool b)).run P w = .ok (a == b) w := by
    show (Op.equalIn (9999 + 1) t _ _).run P w = _
    unfold Op.equalIn
    simp only [Sem.run_bind, run_underlying_T hT ht, Result.andThen_ok, Sem.run_pure]
  simp only [execOp, e1, e2, eqGuard, binOp, Sem.run_bind, Sem.run_pure]
  simp only [Bool.not_true, Bool.false_eq_true, if_false, Sem.run_pure, Result.andThen_ok, heq]

theorem RunsTo.boolNe {P : Program} {T : List (Nat × TI)} {n : Nat} {E : List (Nat × Value)} {w : World} (hT : TblOk P T) {d : Option Tmp} {t t2 : TypeId} {x y : Operand} {ty : TypeId} {pos : String} {af : Array Edge} {g : Option (Nat × Bool)} {s1 s2 : Nat} {z : Value} {a b : Bool} (ht : lookT T t = some ⟨.bool, s1, s2, z⟩) (hx : ov E x = some (.bool a)) (hy : ov E y = some (.bool b)) :
    RunsTo P n ⟨d, .binOp .neq t x y t2, ty, pos, af, g⟩ E w (.bool (!(a == b))) := by
  intro f hf
  have e1 := hf.eval hx
  have e2 := hf.eval hy
  generalize f.eval = ρ at e1 e2
  have heq : (Op.equal t (.bool a) (.bool b)).run P w = .ok (a == b) w := by
    show (Op.equalIn (9999 + 1) t _ _).run P w = _
    unfold Op.equalIn
    simp only [Sem.run_bind, run_underlying_T hT ht, Result.andThen_ok, Sem.run_pure]
  simp only [execOp, e1, e2, eqGuard, binOp, Sem.run_bind, Sem.run_pure]
  simp only [Bool.not_true, Bool.false_eq_true, if_false, Sem.run_pure, Result.andThen_ok, heq]

/-- What Int64 hands back. -/
def int64V (a : Int) : Value := if -9223372036854775808 ≤ a ∧ a ≤ 9223372036854775807 then .tuple #[.int .i64 a, .bool true] else .tuple #[.int .i64 0, .bool false]

set_option maxRecDepth 4000 in
set_option maxHeartbeats 400000 in
theorem int64_spec (w : World) (v : Value) (neg : Bool) (xs : List Nat) (h : Den w v neg xs) (hlen : xs.length ≤ 100000000) :
    Calls Try.prog 24 #[v] w (Ret fun r w' => Ext w w' ∧ r = int64V (sg neg (val xs))) := by
  obtain ⟨p, cap, rfl, hs⟩ := h
  refine calls_of_St (args := [_]) Try.func24 rfl Try.ntmps24 rfl ?_
  (repeat with_reducible first|refine .nil ?_|refine .then_normal ?_|refine .block_normal ?_|refine .seq ?_|refine .block ?_|refine .skip ?_|refine .region ?_|refine .ret ?_|refine .then_ret ?_|refine .block_ret ?_|refine .exit ?_|refine .then_exit ?_|refine .block_exit ?_|refine .block_other rfl ?_)
  refine StL.step rfl rfl rfl (OpR.box rfl) ?_
  rintro _ w1 ⟨rfl, hb, hx1, _⟩
  have hs1 := hs.ext hx1
  (iterate 6 ((repeat with_reducible first|refine .nil ?_|refine .then_normal ?_|refine .block_normal ?_|refine .seq ?_|refine .block ?_|refine .skip ?_|refine .region ?_|refine .ret ?_|refine .then_ret ?_|refine .block_ret ?_|refine .exit ?_|refine .then_exit ?_|refine .block_exit ?_|refine .block_other rfl ?_); try refine .run TBok 99 rfl ?_))
  refine StL.step rfl rfl rfl (RunsTo.load TBok rfl rfl rfl (hb.cell rfl)).op ?_
  rintro _ _ ⟨rfl, rfl⟩
  refine StL.step rfl rfl rfl (OpR.call fn_integer_trim rfl (trim_spec w1 _ _ hs1 (by omega))) ?_
  rintro _ w2 ⟨rfl, rfl, ht⟩
  obtain ⟨p2, cap2, hform, _⟩ := ht.form
  rw [hform] at ht ⊢
  (iterate 6 ((repeat with_reducible first|refine .nil ?_|refine .then_normal ?_|refine .block_normal ?_|refine .seq ?_|refine .block ?_|refine .skip ?_|refine .region ?_|refine .ret ?_|refine .then_ret ?_|refine .block_ret ?_|refine .exit ?_|refine .then_exit ?_|refine .block_exit ?_|refine .block_other rfl ?_); try refine .run TBok 99 rfl ?_))
  by_cases hbig : 2 < (limbs (val xs)).length
  · refine St.condT rfl (by simp; omega) ?_
    (iterate 6 ((repeat with_reducible first|refine .nil ?_|refine .then_normal ?_|refine .block_normal ?_|refine .seq ?_|refine .block ?_|refine .skip ?_|refine .region ?_|refine .ret ?_|refine .then_ret ?_|refine .block_ret ?_|refine .exit ?_|refine .then_exit ?_|refine .block_exit ?_|refine .block_other rfl ?_); try refine .run TBok 99 rfl ?_))
    refine Out.ret2 rfl rfl rfl ⟨hx1, ?_⟩
    have hge : 18446744073709551616 ≤ val xs := by
      rcases Nat.lt_or_ge (val xs) 18446744073709551616 with h | h
      · have := limbs_length_le_two h; omega
      · exact h
    unfold int64V
    rw [if_neg]
    cases neg <;> simp [sg] <;> omega
  refine St.condF rfl (by simp; omega) ?_
  have hv64 : val xs < 18446744073709551616 := by
    have := val_le_two ht.2 (by omega)
    rwa [val_limbs] at this
  (iterate 6 ((repeat with_reducible first|refine .nil ?_|refine .then_normal ?_|refine .block_normal ?_|refine .seq ?_|refine .block ?_|refine .skip ?_|refine .region ?_|refine .ret ?_|refine .then_ret ?_|refine .block_ret ?_|refine .exit ?_|refine .then_exit ?_|refine .block_exit ?_|refine .block_other rfl ?_); try refine .run TBok 99 rfl ?_))
  refine StL.step rfl rfl rfl (OpR.call fn_integer_word rfl (word_spec _ _ _ ht (by omega))) ?_
  rintro _ w3 ⟨rfl, rfl⟩
  rw [val_limbs]
  generalize val xs = m at *
  (iterate 6 ((repeat with_reducible first|refine .nil ?_|refine .then_normal ?_|refine .block_normal ?_|refine .seq ?_|refine .block ?_|refine .skip ?_|refine .region ?_|refine .ret ?_|refine .then_ret ?_|refine .block_ret ?_|refine .exit ?_|refine .then_exit ?_|refine .block_exit ?_|refine .block_other rfl ?_); try refine .run TBok 99 rfl ?_))
  refine StL.step rfl rfl rfl (RunsTo.load TBok rfl rfl rfl (hb.cell rfl)).op ?_
  rintro _ _ ⟨rfl, rfl⟩
  unfold int64V
  cases neg with
  | true =>
    by_cases hm : m ≤ 9223372036854775808
    · refine StL.as TBok 3 (.bool true) rfl (bool_true (by omega)) ?_
      (iterate 6 ((repeat with_reducible first|refine .nil ?_|refine .then_normal ?_|refine .block_normal ?_|refine .seq ?_|refine .block ?_|refine .skip ?_|refine .region ?_|refine .ret ?_|refine .then_ret ?_|refine .block_ret ?_|refine .exit ?_|refine .then_exit ?_|refine .block_exit ?_|refine .block_other rfl ?_); try refine .run TBok 99 rfl ?_))
      refine St.condT rfl rfl ?_
      (iterate 6 ((repeat with_reducible first|refine .nil ?_|refine .then_normal ?_|refine .block_normal ?_|refine .seq ?_|refine .block ?_|refine .skip ?_|refine .region ?_|refine .ret ?_|refine .then_ret ?_|refine .block_ret ?_|refine .exit ?_|refine .then_exit ?_|refine .block_exit ?_|refine .block_other rfl ?_); try refine .run TBok 99 rfl ?_))
      refine Out.ret2 rfl rfl rfl ⟨hx1, ?_⟩
      rw [if_pos (by simp [sg]; omega)]
      congr 4
      simp only [wrap_i64, wrap_u64, sg, if_true]
      omega
    · refine StL.as TBok 3 (.bool false) rfl (bool_false (by omega)) ?_
      (iterate 6 ((repeat with_reducible first|refine .nil ?_|refine .then_normal ?_|refine .block_normal ?_|refine .seq ?_|refine .block ?_|refine .skip ?_|refine .region ?_|refine .ret ?_|refine .then_ret ?_|refine .block_ret ?_|refine .exit ?_|refine .then_exit ?_|refine .block_exit ?_|refine .block_other rfl ?_); try refine .run TBok 99 rfl ?_))
      refine St.condF rfl rfl ?_
      (iterate 6 ((repeat with_reducible first|refine .nil ?_|refine .then_normal ?_|refine .block_normal ?_|refine .seq ?_|refine .block ?_|refine .skip ?_|refine .region ?_|refine .ret ?_|refine .then_ret ?_|refine .block_ret ?_|refine .exit ?_|refine .then_exit ?_|refine .block_exit ?_|refine .block_other rfl ?_); try refine .run TBok 99 rfl ?_))
      refine StL.step rfl rfl rfl (RunsTo.load TBok rfl rfl rfl (hb.cell rfl)).op ?_
      rintro _ _ ⟨rfl, rfl⟩
      (iterate 6 ((repeat with_reducible first|refine .nil ?_|refine .then_normal ?_|refine .block_normal ?_|refine .seq ?_|refine .block ?_|refine .skip ?_|refine .region ?_|refine .ret ?_|refine .then_ret ?_|refine .block_ret ?_|refine .exit ?_|refine .then_exit ?_|refine .block_exit ?_|refine .block_other rfl ?_); try refine .run TBok 99 rfl ?_))
      refine St.condF rfl rfl ?_
      (iterate 6 ((repeat with_reducible first|refine .nil ?_|refine .then_normal ?_|refine .block_normal ?_|refine .seq ?_|refine .block ?_|refine .skip ?_|refine .region ?_|refine .ret ?_|refine .then_ret ?_|refine .block_ret ?_|refine .exit ?_|refine .then_exit ?_|refine .block_exit ?_|refine .block_other rfl ?_); try refine .run TBok 99 rfl ?_))
      refine Out.ret2 rfl rfl rfl ⟨hx1, ?_⟩
      rw [if_neg (by simp [sg]; omega)]
  | false =>
    (iterate 6 ((repeat with_reducible first|refine .nil ?_|refine .then_normal ?_|refine .block_normal ?_|refine .seq ?_|refine .block ?_|refine .skip ?_|refine .region ?_|refine .ret ?_|refine .then_ret ?_|refine .block_ret ?_|refine .exit ?_|refine .then_exit ?_|refine .block_exit ?_|refine .block_other rfl ?_); try refine .run TBok 99 rfl ?_))
    refine St.condF rfl rfl ?_
    (iterate 6 ((repeat with_reducible first|refine .nil ?_|refine .then_normal ?_|refine .block_normal ?_|refine .seq ?_|refine .block ?_|refine .skip ?_|refine .region ?_|refine .ret ?_|refine .then_ret ?_|refine .block_ret ?_|refine .exit ?_|refine .then_exit ?_|refine .block_exit ?_|refine .block_other rfl ?_); try refine .run TBok 99 rfl ?_))
    refine StL.step rfl rfl rfl (RunsTo.load TBok rfl rfl rfl (hb.cell rfl)).op ?_
    rintro _ _ ⟨rfl, rfl⟩
    by_cases hm : m < 9223372036854775808
    · refine StL.as TBok 4 (.bool true) rfl (bool_true (by omega)) ?_
      (iterate 6 ((repeat with_reducible first|refine .nil ?_|refine .then_normal ?_|refine .block_normal ?_|refine .seq ?_|refine .block ?_|refine .skip ?_|refine .region ?_|refine .ret ?_|refine .then_ret ?_|refine .block_ret ?_|refine .exit ?_|refine .then_exit ?_|refine .block_exit ?_|refine .block_other rfl ?_); try refine .run TBok 99 rfl ?_))
      refine St.condT rfl rfl ?_
      (iterate 6 ((repeat with_reducible first|refine .nil ?_|refine .then_normal ?_|refine .block_normal ?_|refine .seq ?_|refine .block ?_|refine .skip ?_|refine .region ?_|refine .ret ?_|refine .then_ret ?_|refine .block_ret ?_|refine .exit ?_|refine .then_exit ?_|refine .block_exit ?_|refine .block_other rfl ?_); try refine .run TBok 99 rfl ?_))
      refine Out.ret2 rfl rfl rfl ⟨hx1, ?_⟩
      rw [if_pos (by simp [sg]; omega)]
      congr 4
      simp only [wrap_i64, sg]
      simp
      omega
    · refine StL.as TBok 4 (.bool false) rfl (bool_false (by omega)) ?_
      (iterate 6 ((repeat with_reducible first|refine .nil ?_|refine .then_normal ?_|refine .block_normal ?_|refine .seq ?_|refine .block ?_|refine .skip ?_|refine .region ?_|refine .ret ?_|refine .then_ret ?_|refine .block_ret ?_|refine .exit ?_|refine .then_exit ?_|refine .block_exit ?_|refine .block_other rfl ?_); try refine .run TBok 99 rfl ?_))
      refine St.condF rfl rfl ?_
      (iterate 6 ((repeat with_reducible first|refine .nil ?_|refine .then_normal ?_|refine .block_normal ?_|refine .seq ?_|refine .block ?_|refine .skip ?_|refine .region ?_|refine .ret ?_|refine .then_ret ?_|refine .block_ret ?_|refine .exit ?_|refine .then_exit ?_|refine .block_exit ?_|refine .block_other rfl ?_); try refine .run TBok 99 rfl ?_))
      refine Out.ret2 rfl rfl rfl ⟨hx1, ?_⟩
      rw [if_neg (by simp [sg]; omega)]

end Go.Qf

/- A small region that draws its order, walked order by order; what yields in whatever world is taken first. -/
namespace Go.Qf
open Go Go.RowKit

def WA (P : Program) (n : Nat) (l : List Oper) (Q : Exit → Act → World → Prop) (fuel : Nat) (listed : Array Bool) (E : List (Nat × Value)) (w : World) : Prop := ∀ a, Fits n E a → wpAny P .any l.toArray Q fuel listed a w

section
variable {P : Program} {T : List (Nat × TI)} {n : Nat} {l : List Oper} {Q : Exit → Act → World → Prop} {fuel : Nat} {listed : Array Bool} {E : List (Nat × Value)} {w : World}

theorem St.any {id : Nat} {k : Nat} (hP : P.follows .mixedOrders = true) (hk : l.length = k) (h : ∀ w1, Ext w w1 → Upd 0 w w1 → w1.heap = w.heap → WA P n l Q k (Array.replicate k false) E w1) : St P n E w (.region id l.toArray true) Q := by
  intro a ha
  subst hk
  refine wp_region_any hP ?_
  have := h { w with drawn := w.drawn + 1 } ⟨rfl, rfl, rfl, Nat.le_refl _, fun _ _ => rfl⟩ ⟨rfl, rfl, rfl, Nat.le_refl _, fun _ _ _ => rfl⟩ rfl a ha
  simpa using this

theorem WA.take (i : Nat) {o : Oper} {d : Nat} {v : Value} (ho : l.toArray[i]? = some o) (hd : o.dst = some d) (hs : Region.noSelect l.toArray = true) (hf : Region.free .any l.toArray listed i = true) (hr : (Region.ready .any l.toArray listed).contains i = true)
    (hQ : ∀ c a w, Q (.panic c) (a.put o.dst v) w → Q (.panic c) a w) (hw : wantE l.toArray E o.guard = some true) (hn : Nat.blt d n = true) (hy : ∀ w, RunsTo P n o E w v) (next : WA P n l Q fuel (listed.setIfInBounds i true) ((d, v) :: E) w) : WA P n l Q (fuel + 1) listed E w := by
  intro a ha
  refine wpAny_take ho hs hf hr hQ (.inl ⟨wantE_spec ha hw, fun w' => hy w' a ha⟩) (next _ ?_)
  rw [hd]
  exact ha.put hn v

theorem WA.pure (hT : TblOk P T) (i : Nat) {o : Oper} {d : Nat} {v : Value} (ho : l.toArray[i]? = some o) (hd : o.dst = some d) (hs : Region.noSelect l.toArray = true) (hf : Region.free .any l.toArray listed i = true) (hr : (Region.ready .any l.toArray listed).contains i = true)
    (hQ : ∀ c a w, Q (.panic c) (a.put o.dst v) w → Q (.panic c) a w) (hw : wantE l.toArray E o.guard = some true) (hn : Nat.blt d n = true) (hy : pureOp T E o.op = some v) (next : WA P n l Q fuel (listed.setIfInBounds i true) ((d, v) :: E) w) : WA P n l Q (fuel + 1) listed E w :=
  WA.take i ho hd hs hf hr hQ hw hn (fun _ => RunsTo.pure hT hy) next

/-- One of those that may come up. -/
def WOp (P : Program) (n : Nat) (l : List Oper) (Q : Exit → Act → World → Prop) (fuel : Nat) (listed : Array Bool) (E : List (Nat × Value)) (w : World) (i : Nat) : Prop := ∀ a, Fits n E a → wpOp P l.toArray Q i (wpAny P .any l.toArray Q fuel (listed.setIfInBounds i true)) a w

theorem WOp.val {i : Nat} {o : Oper} {d : Nat} {Φ : Value → World → Prop} (ho : l.toArray[i]? = some o) (hd : o.dst = some d) (hw : wantE l.toArray E o.guard = some true) (hn : Nat.blt d n = true) (h : OpR P n o E w Φ) (next : ∀ v w', Φ v w' → WA P n l Q fuel (listed.setIfInBounds i true) ((d, v) :: E) w') : WOp P n l Q fuel listed E w i := by
  intro a ha
  unfold wpOp
  simp only [ho]
  rw [if_pos (wantE_spec ha hw)]
  exact .inl (h a ha Q _ fun v w' hv => next v w' hv _ (by rw [hd]; exact ha.put hn v))

theorem WOp.eff {i : Nat} {o : Oper} {Φ : Value → World → Prop} (ho : l.toArray[i]? = some o) (hd : o.dst = none) (hw : wantE l.toArray E o.guard = some true) (h : OpR P n o E w Φ) (next : ∀ v w', Φ v w' → WA P n l Q fuel (listed.setIfInBounds i true) E w') : WOp P n l Q fuel listed E w i := by
  intro a ha
  unfold wpOp
  simp only [ho]
  rw [if_pos (wantE_spec ha hw)]
  exact .inl (h a ha Q _ fun v w' hv => next v w' hv _ (by rw [hd]; exact ha))

theorem WA.one {i : Nat} (hr : Region.ready .any l.toArray listed = [i]) (h : WOp P n l Q fuel listed E w i) : WA P n l Q (fuel + 1) listed E w := by
  intro a ha
  refine wpAny_all hr (by simp) ?_
  intro j hj
  simp only [List.mem_singleton] at hj
  subst hj
  exact h a ha

theorem WA.two {i j : Nat} (hr : Region.ready .any l.toArray listed = [i, j]) (h : WOp P n l Q fuel listed E w i) (h' : WOp P n l Q fuel listed E w j) : WA P n l Q (fuel + 1) listed E w := by
  intro a ha
  refine wpAny_all hr (by simp) ?_
  intro k hk
  simp only [List.mem_cons, List.not_mem_nil, or_false] at hk
  rcases hk with rfl | rfl
  · exact h a ha
  · exact h' a ha

theorem WA.done (hr : Region.ready .any l.toArray listed = []) (h : Out n E w .normal Q) : WA P n l Q fuel listed E w :=
  fun a ha => wpAny_done hr (h a ha) _

/-- All that computes, taken in the order given. -/
def takesB (l : List Oper) : List Nat → Array Bool → Bool
  | [], _ => true
  | i :: r, listed => Region.free .any l.toArray listed i && (Region.ready .any l.toArray listed).contains i && takesB l r (listed.setIfInBounds i true)

def takesL : List Nat → Array Bool → Array Bool
  | [], listed => listed
  | i :: r, listed => takesL r (listed.setIfInBounds i true)

def takesE (T : List (Nat × TI)) (n : Nat) (l : List Oper) : List Nat → List (Nat × Value) → Option (List (Nat × Value))
  | [], E => some E
  | i :: r, E =>
    match l[i]? with
    | some o =>
      match o.dst, wantE l.toArray E o.guard, pureOp T E o.op with
      | some d, some true, some v => bif Nat.blt d n then takesE T n l r ((d, v) :: E) else none
      | _, _, _ => none
    | none => none

theorem WA.takes (hT : TblOk P T) (hs : Region.noSelect l.toArray = true) (hQ : ∀ (d : Nat) v c a w, Q (.panic c) (a.put (some d) v) w → Q (.panic c) a w) : ∀ (is : List Nat) {fuel : Nat} {listed : Array Bool} {E E' : List (Nat × Value)}, takesB l is listed = true → takesE T n l is E = some E' → WA P n l Q fuel (takesL is listed) E' w → WA P n l Q (fuel + is.length) listed E w := by
  intro is
  induction is with
  | nil => intro fuel listed E E' _ h hn; simp only [takesE, Option.some.injEq] at h; subst h; exact hn
  | cons i r ih =>
    intro fuel listed E E' hB h hn
    simp only [takesB, Bool.and_eq_true] at hB
    simp only [takesE] at h
    split at h
    · rename_i o ho
      split at h
      · rename_i d v hd hw hv
        cases hb : Nat.blt d n with
        | false => rw [hb] at h; cases h
        | true =>
          rw [hb] at h
          simp only [cond_true] at h
          have := ih hB.2 h hn
          exact WA.pure hT i (by simpa using ho) hd hs hB.1.1 hB.1.2 (fun c a w => by rw [hd]; exact hQ d _ c a w) hw hb hv this
      · cases h
    · cases h

/-- A cut where the ways meet behind x. -/
theorem St.cutX {α : Type} (Em : α → List (Nat × Value)) (I : α → World → Prop) {x y : Code} (hx : St P n E w x (Exit.then (Met n Em I) Q)) (hy : ∀ g w, I g w → St P n (Em g) w y Q) : St P n E w x (Exit.then (y.wp P Q) Q) := by
  intro a ha
  refine wp_mono (hx a ha) ?_
  intro e a2 w2 hq
  cases e with
  | normal =>
    obtain ⟨g, hf, hI⟩ := hq
    exact hy g w2 hI a2 hf
  | exit id => exact hq
  | goto l => exact hq
  | ret => exact hq
  | panic ch => exact hq
  | outgrown => exact hq

end
end Go.Qf

/- Strings: their bytes, and the operations on them. -/
namespace Go.Qf
open Go Go.RowKit Go.Lib

def strB (bs : List Nat) : ByteArray := ⟨(bs.map UInt8.ofNat).toArray⟩
def B8 (bs : List Nat) : Prop := ∀ b ∈ bs, b < 256
abbrev strV (bs : List Nat) : Value := .string (strB bs)
abbrev u8 (x : Nat) : Value := .int .u8 x

theorem strB_size (bs : List Nat) : (strB bs).size = bs.length := by simp [strB, ByteArray.size]
theorem B8.get {bs : List Nat} (h : B8 bs) {i x : Nat} (hx : bs[i]? = some x) : x < 256 := h x (List.mem_of_getElem? hx)
theorem B8.app {xs bs : List Nat} (h : B8 xs) (k : B8 bs) : B8 (xs ++ bs) := fun x hx => by
  rcases List.mem_append.1 hx with h1 | h1
  · exact h x h1
  · exact k x h1

theorem u8_toNat {b : Nat} (h : b < 256) : (UInt8.ofNat b).toNat = b := by
  simp [UInt8.toNat_ofNat']; omega

theorem map_u8_inj {xs bs : List Nat} (ha : B8 xs) (hb : B8 bs) (h : xs.map UInt8.ofNat = bs.map UInt8.ofNat) : xs = bs := by
  have h2 : (xs.map UInt8.ofNat).map UInt8.toNat = (bs.map UInt8.ofNat).map UInt8.toNat := by rw [h]
  simp only [List.map_map] at h2
  have e : ∀ {l : List Nat}, B8 l → l.map (UInt8.toNat ∘ UInt8.ofNat) = l := by
    intro l hl
    induction l with
    | nil => rfl
    | cons x r ih =>
      have hx : x < 256 := hl x (by simp)
      simp only [List.map_cons, Function.comp_apply, u8_toNat hx, ih (fun y hy => hl y (by simp [hy]))]
  rwa [e ha, e hb] at h2

theorem strB_inj {xs bs : List Nat} (ha : B8 xs) (hb : B8 bs) (h : strB xs = strB bs) : xs = bs := by
  refine map_u8_inj ha hb ?_
  have := congrArg (fun s : ByteArray => s.data.toList) h
  simpa [strB] using this

theorem strB_append (xs bs : List Nat) : strB xs ++ strB bs = strB (xs ++ bs) := by
  apply Go.WideShapes.bytes_inj
  simp [strB]

theorem strB_extract (bs : List Nat) (l h : Nat) : (strB bs).extract l h = strB ((bs.drop l).take (h - l)) := by
  apply Go.WideShapes.bytes_inj
  simp [strB, List.map_drop, List.map_take]

theorem strB_surj (s : ByteArray) : ∃ bs, B8 bs ∧ s = strB bs := by
  refine ⟨s.data.toList.map UInt8.toNat, ?_, ?_⟩
  · intro b hb
    obtain ⟨x, _, rfl⟩ := List.mem_map.1 hb
    exact x.toNat_lt
  · apply Go.WideShapes.bytes_inj
    have e : (UInt8.ofNat ∘ UInt8.toNat) = id := by funext x; simp
    simp [strB, e]

theorem strB_get {bs : List Nat} {i b : Nat} (h : bs[i]? = some b) : (strB bs)[i]? = some (UInt8.ofNat b) := by
  have hi := (List.getElem?_eq_some_iff.1 h).1
  have e : (strB bs)[i]? = (strB bs).data[i]? := rfl
  rw [e]
  simp [strB, h]

section
variable {P : Program} {T : List (Nat × TI)} {n : Nat} {E : List (Nat × Value)} {w : World}

theorem strB_beq {xs bs : List Nat} (ha : B8 xs) (hb : B8 bs) : ((strB xs).toList == (strB bs).toList) = decide (xs = bs) := by
  rw [ByteArray.toList_eq, ByteArray.toList_eq]
  by_cases h : xs = bs
  · subst h; simp
  · have : ¬ ((strB xs).data.toList = (strB bs).data.toList) := fun e => h (strB_inj ha hb (Go.WideShapes.bytes_inj e))
    simp only [decide_eq_false h]
    exact beq_eq_false_iff_ne.2 this

theorem RunsTo.strEql {d : Option Tmp} {t t2 : TypeId} {x y : Operand} {ty : TypeId} {pos : String} {af : Array Edge} {g : Option (Nat × Bool)} {xs bs : List Nat} (ha : B8 xs) (hb : B8 bs) (hx : ov E x = some (strV xs)) (hy : ov E y = some (strV bs)) :
    RunsTo P n ⟨d, .binOp .eql t x y t2, ty, pos, af, g⟩ E w (.bool (decide (xs = bs))) := by
  intro f hf
  have e1 := hf.eval hx
  have e2 := hf.eval hy
  generalize f.eval = ρ at e1 e2
  simp only [execOp, e1, e2, eqGuard, binOp, Op.stringOp, strB_beq ha hb]
  simp [go_sem]

theorem RunsTo.strNeq {d : Option Tmp} {t t2 : TypeId} {x y : Operand} {ty : TypeId} {pos : String} {af : Array Edge} {g : Option (Nat × Bool)} {xs bs : List Nat} (ha : B8 xs) (hb : B8 bs) (hx : ov E x = some (strV xs)) (hy : ov E y = some (strV bs)) :
    RunsTo P n ⟨d, .binOp .neq t x y t2, ty, pos, af, g⟩ E w (.bool (!(decide (xs = bs)))) := by
  intro f hf
  have e1 := hf.eval hx
  have e2 := hf.eval hy
  generalize f.eval = ρ at e1 e2
  simp only [execOp, e1, e2, eqGuard, binOp, Op.stringOp, strB_beq ha hb]
  simp [go_sem]

theorem RunsTo.strAdd {d : Option Tmp} {t t2 : TypeId} {x y : Operand} {ty : TypeId} {pos : String} {af : Array Edge} {g : Option (Nat × Bool)} {xs bs : List Nat} (hx : ov E x = some (strV xs)) (hy : ov E y = some (strV bs)) (hl : xs.length + bs.length ≤ 1000000000000) :
    RunsTo P n ⟨d, .binOp .add t x y t2, ty, pos, af, g⟩ E w (strV (xs ++ bs)) := by
  intro f hf
  have e1 := hf.eval hx
  have e2 := hf.eval hy
  generalize f.eval = ρ at e1 e2
  have hm : IntKind.i64.max = 9223372036854775807 := rfl
  have hle : ¬ ((((strB xs).size + (strB bs).size : Nat) : Int) > IntKind.i64.max) := by rw [strB_size, strB_size, hm]; omega
  simp only [execOp, e1, e2, eqGuard, binOp, Op.stringOp, if_neg hle, strB_append]
  simp [go_sem]

theorem RunsTo.strIndex (hT : TblOk P T) {d : Option Tmp} {t : TypeId} {x i : Operand} {ty : TypeId} {pos : String} {af : Array Edge} {g : Option (Nat × Bool)} {s1 s2 : Nat} {z : Value} {k : IntKind} {iv : Int} {bs : List Nat} (j b : Nat)
    (ht : lookT T t = some ⟨.string, s1, s2, z⟩) (hx : ov E x = some (strV bs)) (hi : ov E i = some (.int k iv)) (hj : iv = j) (hb : bs[j]? = some b) (h8 : b < 256) :
    RunsTo P n ⟨d, .index t x i, ty, pos, af, g⟩ E w (u8 b) := by
  intro f hf
  have e1 := hf.eval hx
  have e2 := hf.eval hi
  generalize f.eval = ρ at e1 e2
  subst hj
  have h0 : (0 : Int) ≤ (j : Int) := by omega
  have hg := strB_get hb
  have hrun : (Instr.index t (strV bs) (.int k (j : Int))).run P w = .ok (u8 b) w := by
    unfold Instr.index
    simp only [asIntOf, Sem.run_bind, Sem.run_pure, Result.andThen_ok, run_underlying_T hT ht]
    simp only [if_pos h0, Int.toNat_natCast, hg, Sem.run_pure, u8_toNat h8]
  simp only [execOp, e1, e2, Sem.run_bind, hrun, Result.andThen_ok, Sem.run_pure]

/-- s[l:] -/
theorem RunsTo.strFrom (hT : TblOk P T) {d : Option Tmp} {t : TypeId} {x i : Operand} {ty : TypeId} {pos : String} {af : Array Edge} {g : Option (Nat × Bool)} {s1 s2 : Nat} {z : Value} {k : IntKind} {iv : Int} {bs : List Nat} (j : Nat)
    (ht : lookT T t = some ⟨.string, s1, s2, z⟩) (hx : ov E x = some (strV bs)) (hi : ov E i = some (.int k iv)) (hj : iv = j) (hle : j ≤ bs.length) :
    RunsTo P n ⟨d, .slice t x (some i) none none, ty, pos, af, g⟩ E w (strV (bs.drop j)) := by
  intro f hf
  have e1 := hf.eval hx
  have e2 := hf.eval hi
  generalize f.eval = ρ at e1 e2
  subst hj
  have h1 : (0 : Int) ≤ (j : Int) ∧ (j : Int) ≤ ((strB bs).size : Nat) := by rw [strB_size]; omega
  have hrun : (Instr.slice t (strV bs) (some (.int k (j : Int))) none none).run P w = .ok (strV (bs.drop j)) w := by
    unfold Instr.slice
    simp only [Sem.run_bind, Sem.run_pure, Result.andThen_ok, run_underlying_T hT ht, Option.isSome_none, Bool.false_eq_true, if_false, Instr.sliceBounds, Instr.sliceBound, asIntOf, if_pos h1, Int.toNat_natCast]
    rw [strB_extract, strB_size, List.take_of_length_le (by simp)]
  simp only [execOp, Instr.sliceAt, e1, e2, Option.map_some, Option.map_none, Sem.run_bind, run_underlying_T hT ht, Result.andThen_ok, hrun, Sem.run_pure]

/-- s[:h] -/
theorem RunsTo.strTo (hT : TblOk P T) {d : Option Tmp} {t : TypeId} {x i : Operand} {ty : TypeId} {pos : String} {af : Array Edge} {g : Option (Nat × Bool)} {s1 s2 : Nat} {z : Value} {k : IntKind} {iv : Int} {bs : List Nat} (j : Nat)
    (ht : lookT T t = some ⟨.string, s1, s2, z⟩) (hx : ov E x = some (strV bs)) (hi : ov E i = some (.int k iv)) (hj : iv = j) (hle : j ≤ bs.length) :
    RunsTo P n ⟨d, .slice t x none (some i) none, ty, pos, af, g⟩ E w (strV (bs.take j)) := by
  intro f hf
  have e1 := hf.eval hx
  have e2 := hf.eval hi
  generalize f.eval = ρ at e1 e2
  subst hj
  have h1 : (0 : Int) ≤ (j : Int) ∧ (j : Int) ≤ ((strB bs).size : Nat) := by rw [strB_size]; omega
  have hrun : (Instr.slice t (strV bs) none (some (.int k (j : Int))) none).run P w = .ok (strV (bs.take j)) w := by
    unfold Instr.slice
    simp only [Sem.run_bind, Sem.run_pure, Result.andThen_ok, run_underlying_T hT ht, Option.isSome_none, Bool.false_eq_true, if_false, Instr.sliceBounds, Instr.sliceBound, asIntOf, if_pos h1, Int.toNat_natCast]
    rw [strB_extract, List.drop_zero, Nat.sub_zero]
  simp only [execOp, Instr.sliceAt, e1, e2, Option.map_some, Option.map_none, Sem.run_bind, run_underlying_T hT ht, Result.andThen_ok, hrun, Sem.run_pure]

theorem run_loadCells_row {e : TypeId} {a : Addr} {len cap : Nat} {cs : List Value} (h : Row e w (.slice (some a) len cap) cs) : (loadCells a len).run P w = .ok cs.toArray w := by
  obtain ⟨p, cap', hv, hl, _, hc⟩ := h
  simp only [Value.slice.injEq] at hv
  obtain ⟨rfl, rfl, rfl⟩ := hv
  have key : ∀ (m i : Nat) (acc : Array Value), i + m = cs.length → (loadCellsFrom a i m acc).run P w = .ok (acc ++ (cs.drop i).toArray) w := by
    intro m
    induction m with
    | zero => intro i acc hi; rw [List.drop_of_length_le (by omega)]; simp [loadCellsFrom, go_sem]
    | succ m ih =>
      intro i acc hi
      have hlt : i < cs.length := by omega
      unfold loadCellsFrom
      simp only [Sem.run_bind]
      rw [run_load1 (hc a rfl i cs[i] (by simp [hlt])), Result.andThen_ok, ih (i + 1) _ (by omega)]
      congr 1
      rw [List.drop_eq_getElem_cons hlt]
      simp
  have := key cs.length 0 #[] (by omega)
  simpa [loadCells] using this

theorem foldl_push (ns : List Nat) : ∀ (s : ByteArray), (ns.map (fun x : Nat => (x : Int))).foldl (fun r n => r.push (UInt8.ofNat n.toNat)) s = ⟨s.data ++ (ns.map UInt8.ofNat).toArray⟩ := by
  induction ns with
  | nil => intro s; simp
  | cons x r ih =>
    intro s
    simp only [List.map_cons, List.foldl_cons, Int.toNat_natCast]
    rw [ih]
    apply Go.WideShapes.bytes_inj
    simp [ByteArray.push]

/-- string(b) -/
theorem RunsTo.bytesStr (hT : TblOk P T) {d : Option Tmp} {t t2 : TypeId} {x : Operand} {ty : TypeId} {pos : String} {af : Array Edge} {g : Option (Nat × Bool)} {et : TypeId} {s1 s2 s3 s4 : Nat} {z z2 : Value} {ti : TI} {v : Value} {bs : List Nat}
    (ht : lookT T t = some ⟨.slice et, s1, s2, z⟩) (hte : lookT T et = some ti) (hk : ti.desc = .int .u8) (ht2 : lookT T t2 = some ⟨.string, s3, s4, z2⟩) (hx : ov E x = some v) (hr : Row et w v (bs.map u8)) :
    RunsTo P n ⟨d, .convert t t2 x, ty, pos, af, g⟩ E w (strV bs) := by
  intro f hf
  have e1 := hf.eval hx
  generalize f.eval = ρ at e1
  have hu := (hT et ti hte).1
  rw [hk] at hu
  have hconv : (Conv.bytesToString v).run P w = .ok (strV bs) w := by
    obtain ⟨p, cap, hv⟩ := hr.len
    subst hv
    cases p with
    | none =>
      have h0 := Row.nil_of hr
      have : bs = [] := by simpa using h0
      subst this
      simp only [Conv.bytesToString, Sem.run_pure]
      rfl
    | some a =>
      have hl := run_loadCells_row (P := P) hr
      have e : bs.map u8 = (bs.map (fun x : Nat => (x : Int))).map (Value.int .u8) := by simp [List.map_map, Function.comp_def]
      rw [e] at hl
      have := run_bytesToString (P := P) w a _ cap (bs.map (fun x : Nat => (x : Int))) hl
      rw [foldl_push] at this
      simpa [strV, strB] using this
  have hconv2 : (convert t t2 v).run P w = .ok (strV bs) w := by
    obtain ⟨p, cap, hv⟩ := hr.len
    subst hv
    unfold convert
    simp only [Sem.run_bind, run_underlying_T hT ht, run_underlying_T hT ht2, Result.andThen_ok, run_underlying hu, hconv]
  simp only [execOp, e1, Sem.run_bind, hconv2, Result.andThen_ok, Sem.run_pure]

/-! ### Ranging over a string -/

def It (w : World) (k : Nat) (s : ByteArray) (pos : Nat) : Prop := w.heap[k]? = some (.stringIter s pos)
theorem It.lt {k : Nat} {s : ByteArray} {pos : Nat} (h : It w k s pos) : k < w.heap.size := (Array.getElem?_eq_some_iff.1 h).1
theorem It.ext {w' : World} {k : Nat} {s : ByteArray} {pos : Nat} (h : It w k s pos) (hx : Ext w w') : It w' k s pos := (hx.block k h.lt).trans h
theorem It.upd {w' : World} {k b : Nat} {s : ByteArray} {pos : Nat} (h : It w k s pos) (hx : Upd b w w') (hne : k ≠ b) : It w' k s pos := (hx.block k h.lt hne).trans h

theorem OpR.rangeStr (hT : TblOk P T) {d : Option Tmp} {t : TypeId} {x : Operand} {ty : TypeId} {pos : String} {af : Array Edge} {g : Option (Nat × Bool)} {s1 s2 : Nat} {z : Value} {s : ByteArray} (ht : lookT T t = some ⟨.string, s1, s2, z⟩) (hx : ov E x = some (.string s)) :
    OpR P n ⟨d, .range t x, ty, pos, af, g⟩ E w (fun v w' => v = .pointer (some ⟨w.heap.size, 0, none⟩) ∧ It w' w.heap.size s 0 ∧ Ext w w' ∧ w'.heap.size = w.heap.size + 1) := by
  intro a ha Q K hK
  have e1 := ha.eval hx
  have hrun : (execOp a.eval ⟨d, .range t x, ty, pos, af, g⟩).run P w = .ok (.value (.pointer (some ⟨w.heap.size, 0, none⟩))) (w.iter s 0) := by
    generalize a.eval = ρ at e1
    simp only [execOp, e1, Sem.run_bind, run_range_string w t s (hT t _ ht).1, Result.andThen_ok, Sem.run_pure]
  unfold Oper.wp
  rw [hrun, Oper.upon_value]
  exact hK _ _ ⟨rfl, World.iter_heap w s 0, ext_alloc _ _, size_alloc1 _ _⟩

theorem OpR.nextEnd {d : Option Tmp} {x : Operand} {ty : TypeId} {pos : String} {af : Array Edge} {g : Option (Nat × Bool)} {k p : Nat} {s : ByteArray} (hx : ov E x = some (.pointer (some ⟨k, 0, none⟩))) (hi : It w k s p) (hp : ¬ p < s.size) :
    OpR P n ⟨d, .next x true, ty, pos, af, g⟩ E w (fun v w' => v = .tuple #[.bool false] ∧ w' = w) := by
  intro a ha Q K hK
  have e1 := ha.eval hx
  have hrun : (execOp a.eval ⟨d, .next x true, ty, pos, af, g⟩).run P w = .ok (.value (.tuple #[.bool false])) w := by
    generalize a.eval = ρ at e1
    simp only [execOp, e1, Sem.run_bind, run_next_end_at w k s p ty hi hp, Result.andThen_ok, Sem.run_pure]
  unfold Oper.wp
  rw [hrun, Oper.upon_value]
  exact hK _ _ ⟨rfl, rfl⟩

theorem upd_iterAt (w : World) (k : Nat) (s : ByteArray) (p : Nat) : Upd k w (w.iterAt k s p) :=
  ⟨rfl, rfl, rfl, by rw [iterAt_size]; exact Nat.le_refl _, fun j _ hj => iterAt_other w k j s p hj⟩

theorem OpR.nextAny {d : Option Tmp} {x : Operand} {ty : TypeId} {pos : String} {af : Array Edge} {g : Option (Nat × Bool)} {k p : Nat} {s : ByteArray} (hx : ov E x = some (.pointer (some ⟨k, 0, none⟩))) (hi : It w k s p) (hp : p < s.size) :
    OpR P n ⟨d, .next x true, ty, pos, af, g⟩ E w (fun v w' => v = .tuple #[.bool true, .int .i64 p, .int .i32 (Utf8.decode s p).1] ∧ It w' k s (p + (Utf8.decode s p).2) ∧ Upd k w w') := by
  intro a ha Q K hK
  have e1 := ha.eval hx
  have hrun : (execOp a.eval ⟨d, .next x true, ty, pos, af, g⟩).run P w = .ok (.value (.tuple #[.bool true, .int .i64 p, .int .i32 (Utf8.decode s p).1])) (w.iterAt k s (p + (Utf8.decode s p).2)) := by
    generalize a.eval = ρ at e1
    simp only [execOp, e1, Sem.run_bind, run_next_any_at w k s p ty hi hp, Result.andThen_ok, Sem.run_pure]
  unfold Oper.wp
  rw [hrun, Oper.upon_value]
  exact hK _ _ ⟨rfl, iterAt_heap w k s p _ hi, upd_iterAt w k s _⟩

theorem decode_low {bs : List Nat} {i b : Nat} (h : bs[i]? = some b) (hb : b < 128) : Utf8.decode (strB bs) i = (b, 1) := by
  have hi : i < (strB bs).size := by rw [strB_size]; exact (List.getElem?_eq_some_iff.1 h).1
  have e : (strB bs)[i]'hi = UInt8.ofNat b := by
    have := strB_get h
    rw [getElem?_pos (strB bs) i hi] at this
    exact Option.some.inj this
  have hn : ((strB bs)[i]'hi).toNat = b := by rw [e]; exact u8_toNat (by omega)
  rw [decode_ascii _ i hi (by rw [hn]; exact hb), hn]

theorem decode_high {bs : List Nat} {i b : Nat} (h : bs[i]? = some b) (h8 : b < 256) (hb : 128 ≤ b) : 128 ≤ (Utf8.decode (strB bs) i).1 := by
  have hi : i < (strB bs).size := by rw [strB_size]; exact (List.getElem?_eq_some_iff.1 h).1
  have hg : ((strB bs).get! (i + 0)).toNat = b := by
    have e : (strB bs)[i]'hi = UInt8.ofNat b := by
      have := strB_get h
      rw [getElem?_pos (strB bs) i hi] at this
      exact Option.some.inj this
    have e2 : (strB bs).get! (i + 0) = (strB bs)[i]'hi := by
      show (strB bs).data[i + 0]! = _
      rw [Nat.add_zero, getElem!_pos (strB bs).data i hi]
      rfl
    rw [e2, e]; exact u8_toNat h8
  unfold Utf8.decode
  simp only [hg]
  have hre : 128 ≤ Utf8.runeError := by decide
  repeat' split
  all_goals first | exact hre | (rename_i h1; simp only [ge_iff_le, Bool.and_eq_true, decide_eq_true_eq] at h1; omega) | omega

end

/-! ### Rows of other types stay -/
theorem Own.grownT {b1 b2 : Nat} {e1 e2 : TypeId} {w w' : World} {v1 v2 : Value} {c1 c2 : List Value} (h1 : Own b1 e1 w v1 c1) (h2 : Own b2 e2 w v2 c2) (hne : e1 ≠ e2) (hg : w.grownBy w' v2.ownBlock) : Own b1 e1 w' v1 c1 := by
  refine ⟨h1.1, ?_⟩
  rcases h1.2 with h0 | ⟨g, cap, cur, hv, hb, hgg, r⟩
  · exact .inl h0
  · refine .inr ⟨g, cap, cur, hv, hb, (hg.block g (Array.getElem?_eq_some_iff.1 hgg).1 ?_).trans hgg, r⟩
    intro he
    rcases h2.2 with ⟨h0, _⟩ | ⟨g', cap', cur', hv', _, hg', _⟩
    · rw [h0] at he; simp [Value.ownBlock] at he
    · rw [hv'] at he
      simp only [Value.ownBlock, Option.some.injEq] at he
      subst he
      rw [hgg] at hg'
      simp only [Option.some.injEq, Obj.cells.injEq] at hg'
      exact hne hg'.2.1

theorem Blk.grownT {b b2 : Nat} {t e2 : TypeId} {w w' : World} {v2 : Value} {C c2 : List Value} (h1 : Blk t w b C) (h2 : Own b2 e2 w v2 c2) (hne : t ≠ e2) (hg : w.grownBy w' v2.ownBlock) : Blk t w' b C := by
  refine (hg.block b h1.lt ?_).trans h1
  intro he
  rcases h2.2 with ⟨h0, _⟩ | ⟨g', cap', cur', hv', _, hg', _⟩
  · rw [h0] at he; simp [Value.ownBlock] at he
  · rw [hv'] at he
    simp only [Value.ownBlock, Option.some.injEq] at he
    subst he
    unfold Blk at h1
    rw [h1] at hg'
    simp only [Option.some.injEq, Obj.cells.injEq] at hg'
    exact hne hg'.2.1

theorem It.grown {b2 k pos : Nat} {s : ByteArray} {e2 : TypeId} {w w' : World} {v2 : Value} {c2 : List Value} (h1 : It w k s pos) (h2 : Own b2 e2 w v2 c2) (hg : w.grownBy w' v2.ownBlock) : It w' k s pos := by
  refine (hg.block k h1.lt ?_).trans h1
  intro he
  rcases h2.2 with ⟨h0, _⟩ | ⟨g', cap', cur', hv', _, hg', _⟩
  · rw [h0] at he; simp [Value.ownBlock] at he
  · rw [hv'] at he
    simp only [Value.ownBlock, Option.some.injEq] at he
    subst he
    unfold It at h1
    rw [h1] at hg'
    simp at hg'

theorem Own.updIt {b1 k pos : Nat} {e1 : TypeId} {s : ByteArray} {w w' : World} {v1 : Value} {c1 : List Value} (h1 : Own b1 e1 w v1 c1) (hi : It w k s pos) (hu : Upd k w w') : Own b1 e1 w' v1 c1 := by
  refine ⟨h1.1, ?_⟩
  rcases h1.2 with h0 | ⟨g, cap, cur, hv, hb, hgg, r⟩
  · exact .inl h0
  · refine .inr ⟨g, cap, cur, hv, hb, (hu.block g (Array.getElem?_eq_some_iff.1 hgg).1 ?_).trans hgg, r⟩
    intro e; subst e
    unfold It at hi
    rw [hi] at hgg
    simp at hgg

end Go.Qf

/- The arguments of a law, opened. -/
namespace Go.Qf
open Go Go.RowKit Go.Proofs Go.ChangeShapes Go.WideShapes Go.Joins

theorem laidOut : laidOutB Try.prog = true := by kernel_rfl

section
variable {H : Type} {enc : TypeId × Value → H} {W : World} {base : Nat} {spare : Nat → Bool} {held : Bool} {r : Reach} {b0 : Nat} {v : Value} {d : DataW H} {p : List MemPlace}

theorem wf_u32 {n : Int} (h : (Lit.int .u32 n).wf = true) : ∃ m : Nat, n = m ∧ m < 4294967296 := by
  have := bounds_u32 h
  exact ⟨n.toNat, by omega, by omega⟩

/-- A slice of uint32 that reads. -/
theorem open_limbs {fuel : Nat} {c : Value} {y : DataW H × List MemPlace} (h : DataW.trod enc Try.prog W base spare held fuel 22 [c] = some y) : ∃ q cap xs, c = .slice q xs.length cap ∧ Sl W (.slice q xs.length cap) xs ∧ xs.length ≤ maxLen := by
  rcases open_ints Try.underlying22 Try.underlying41 (by kernel_rfl) h with ⟨hcs, _⟩ | ⟨a, len, cap, zs, hcs, _, hl, hm, hz, _, hcell, hwz⟩
  · simp only [List.cons.injEq, and_true] at hcs
    subst hcs
    exact ⟨none, 0, [], rfl, ⟨⟨none, 0, rfl, Nat.le_refl _, fun _ => rfl, fun a ha => by cases ha⟩, Lim.nil⟩, Nat.zero_le _⟩
  · simp only [List.cons.injEq, and_true] at hcs
    subst hcs
    have hlz : len ≤ zs.length := by rw [hz]; split <;> omega
    have hall : ∀ z ∈ zs, ∃ m : Nat, z = m ∧ m < 4294967296 := fun z hz => wf_u32 (hwz z hz)
    have hlen : ((zs.take len).map Int.toNat).length = len := by simp; omega
    refine ⟨some a, cap, (zs.take len).map Int.toNat, by rw [hlen], ?_, by omega⟩
    rw [hlen]
    refine ⟨⟨some a, cap, by simp; omega, by simp; omega, fun e => (by cases e), ?_⟩, ?_⟩
    · intro a' ha' i c hi
      cases ha'
      have hi2 : i < len := by
        have := (List.getElem?_eq_some_iff.1 hi).1
        simp at this; omega
      have := hcell i (by omega)
      rw [this]
      have hzi : zs[i]? = some zs[i] := by simp
      obtain ⟨m, hm1, hm2⟩ := hall zs[i] (List.mem_of_getElem? hzi)
      simp only [List.getElem?_map, List.getElem?_take_of_lt hi2, hzi, Option.map_some, Option.some.injEq] at hi
      rw [← hi]
      simp only [List.getD_eq_getElem?_getD, hzi, Option.getD_some, hm1]
      simp
    · intro x hx
      simp only [List.mem_map] at hx
      obtain ⟨z, hz1, rfl⟩ := hx
      obtain ⟨m, rfl, hm2⟩ := hall z (List.mem_of_mem_take hz1)
      simpa using hm2

theorem open_Int (hv : Value.okWide Try.prog W r b0 24 v) (h : DataW.Trod enc Try.prog W base spare held 24 v d p) : ∃ neg xs, Den W v neg xs ∧ xs.length ≤ maxLen := by
  obtain ⟨c0, c1, y0, y1, m, rfl, _, _, hy0, hy1⟩ := open_agg2 Try.underlying24 (by kernel_rfl) (by kernel_rfl) hv h
  obtain ⟨b, e0, _⟩ := DataW.trod_bool Try.underlying4 hy0
  simp only [List.cons.injEq, and_true] at e0
  subst e0
  obtain ⟨q, cap, xs, rfl, hs, hl⟩ := open_limbs hy1
  exact ⟨b, xs, ⟨q, cap, rfl, hs⟩, hl⟩

theorem open_str (hv : Value.okWide Try.prog W r b0 9 v) (h : DataW.Trod enc Try.prog W base spare held 9 v d p) : ∃ bs, B8 bs ∧ v = strV bs ∧ bs.length ≤ maxLen := by
  obtain ⟨s, rfl, _, _, hs⟩ := Go.ChangeMaps.open_string Try.underlying9 hv h
  obtain ⟨bs, h8, rfl⟩ := strB_surj s
  exact ⟨bs, h8, rfl, by rwa [strB_size] at hs⟩

theorem open_i64 {t : TypeId} (ht : Try.prog.underlying t = some (.int .i64)) (hv : Value.okWide Try.prog W r b0 t v) (h : DataW.Trod enc Try.prog W base spare held t v d p) : ∃ a, v = .int .i64 a ∧ -9223372036854775808 ≤ a ∧ a ≤ 9223372036854775807 := by
  obtain ⟨a, rfl, _, _, hw⟩ := open_int ht hv h
  exact ⟨a, rfl, bounds_i64 hw⟩

theorem open_u8 (hv : Value.okWide Try.prog W r b0 5 v) (h : DataW.Trod enc Try.prog W base spare held 5 v d p) : ∃ a : Nat, v = u8 a ∧ a < 256 := by
  obtain ⟨a, rfl, _, _, hw⟩ := open_int Try.underlying5 hv h
  have := bounds_u8 hw
  exact ⟨a.toNat, by simp [u8]; omega, by omega⟩

theorem open_B (hv : Value.okWide Try.prog W r b0 4 v) (h : DataW.Trod enc Try.prog W base spare held 4 v d p) : ∃ a, v = .bool a := by
  obtain ⟨fuel, hf⟩ := h
  have hv2 : ∃ a, v = .bool a := by
    unfold Value.okWide Cell.okWide Cell.ok at hv
    rw [Try.underlying4] at hv
    cases v <;> simp at hv
    exact ⟨_, rfl⟩
  exact hv2
end
end Go.Qf

/- integer.addSigned, Add, Sub. -/
namespace Go.Qf
open Go Go.RowKit Go.Proofs

theorem sg_sum_same (neg : Bool) (m k : Nat) : sg neg (m + k) = sg neg m + sg neg k := by
  cases neg <;> simp [sg]; omega

theorem sg_diff (neg : Bool) (m k : Nat) (h : k ≤ m) : sg neg (m - k) = sg neg m + sg (!neg) k := by
  cases neg <;> simp [sg] <;> omega

/-- The end of a function that hands back one Int: its value has just been made. -/
theorem StL.finCan {base n : Nat} {E : List (Nat × Value)} {w w0 : World} {ops : Array Oper} {Q : Exit → Act → World → Prop} {t s : Nat} {ty : TypeId} {pos : String} {af : Array Edge} {b : Nat} {C : List Value} {v : Value} {a : Int}
    (ht : look E t = some (.pointer (some ⟨b, 0, none⟩))) (hs : look E s = some v) (hb : Blk 24 w b C) (hC : C.length = 2) (hv : CanO base w v a) (hx : Ext w0 w) (hb0 : w0.heap.size ≤ b)
    (hQ : ∀ w', Ext w0 w' → CanO base w' v a → (∀ (fn : Func) (Φ : Value → World → Prop), fn.results = #[.cell t 24] → Φ v w' → Out n E w' .ret (bodyPost Try.prog fn (Ret Φ))) → Out n E w' .normal Q) :
    StL Try.prog n E w ops [⟨none, .store 24 (.tmp t) (.tmp s), ty, pos, af, none⟩] Q := by
  refine StL.retCan ht hs hb hC hv hx hb0 ?_
  intro w4 cs hcs hl hb4 hu4 hx4
  refine StL.nil (hQ w4 hx4 (CanO.upd hv hu4 ⟨_, hb⟩) ?_)
  intro fn Φ hr hΦ
  exact Out.rets TBok [v] hr ⟨⟨_, _, _, _, ht, hb4, rfl, rfl, hl, hcs⟩, trivial⟩ hΦ

set_option maxRecDepth 4000 in
set_option maxHeartbeats 400000 in
theorem addSigned_spec (w : World) (na nb : Bool) (u v : Value) (m k : Nat) (h : Sl w u (limbs m)) (hk : Sl w v (limbs k)) (hlen : (limbs m).length ≤ 10000000) (hl : (limbs k).length ≤ 10000000) :
    Calls Try.prog 64 #[.bool na, u, .bool nb, v] w (Ret fun r w' => Ext w w' ∧ Can w' r (sg na m + sg nb k)) := by
  refine calls_of_St (args := [_, _, _, _]) Try.func64 rfl Try.ntmps64 rfl ?_
  (repeat with_reducible first|refine .nil ?_|refine .then_normal ?_|refine .block_normal ?_|refine .seq ?_|refine .block ?_|refine .skip ?_|refine .region ?_|refine .ret ?_|refine .then_ret ?_|refine .block_ret ?_|refine .exit ?_|refine .then_exit ?_|refine .block_exit ?_|refine .block_other rfl ?_)
  refine StL.step rfl rfl rfl (OpR.alloc TBok rfl) ?_
  rintro _ w1 ⟨rfl, hb, hx1, _⟩
  have h1 := h.ext hx1
  have k1 := hk.ext hx1
  (iterate 6 ((repeat with_reducible first|refine .nil ?_|refine .then_normal ?_|refine .block_normal ?_|refine .seq ?_|refine .block ?_|refine .skip ?_|refine .region ?_|refine .ret ?_|refine .then_ret ?_|refine .block_ret ?_|refine .exit ?_|refine .then_exit ?_|refine .block_exit ?_|refine .block_other rfl ?_); try refine .run TBok 99 rfl ?_))
  refine StL.step rfl rfl rfl (RunsTo.boolEq TBok rfl rfl rfl).op ?_
  rintro _ _ ⟨rfl, rfl⟩
  (iterate 6 ((repeat with_reducible first|refine .nil ?_|refine .then_normal ?_|refine .block_normal ?_|refine .seq ?_|refine .block ?_|refine .skip ?_|refine .region ?_|refine .ret ?_|refine .then_ret ?_|refine .block_ret ?_|refine .exit ?_|refine .then_exit ?_|refine .block_exit ?_|refine .block_other rfl ?_); try refine .run TBok 99 rfl ?_))
  by_cases hs : na = nb
  · subst hs
    refine St.condT rfl (by simp) ?_
    (iterate 6 ((repeat with_reducible first|refine .nil ?_|refine .then_normal ?_|refine .block_normal ?_|refine .seq ?_|refine .block ?_|refine .skip ?_|refine .region ?_|refine .ret ?_|refine .then_ret ?_|refine .block_ret ?_|refine .exit ?_|refine .then_exit ?_|refine .block_exit ?_|refine .block_other rfl ?_); try refine .run TBok 99 rfl ?_))
    refine StL.step rfl rfl rfl (OpR.call fn_integer_addNat rfl (addNat_spec w1 _ _ _ _ h1 k1 (by omega) (by omega))) ?_
    rintro sl w2 ⟨hx2, hsl⟩
    rw [val_limbs, val_limbs] at hsl
    have hll := limbs_add_length m k
    refine StL.step rfl rfl rfl (OpR.call fn_integer_build rfl (build_spec' w2 na sl (m + k) hsl (by omega))) ?_
    rintro r w3 ⟨hx3, hv⟩
    rw [sg_sum_same] at hv
    refine StL.finCan rfl rfl ((hb.ext hx2).ext hx3) rfl hv ((hx1.trans hx2).trans hx3) (Nat.le_refl _) ?_
    intro w' hxf hcf fin
    (repeat with_reducible first|refine .nil ?_|refine .then_normal ?_|refine .block_normal ?_|refine .seq ?_|refine .block ?_|refine .skip ?_|refine .region ?_|refine .ret ?_|refine .then_ret ?_|refine .block_ret ?_|refine .exit ?_|refine .then_exit ?_|refine .block_exit ?_|refine .block_other rfl ?_)
    exact fin _ _ rfl ⟨hxf, hcf⟩
  have hnb : nb = !na := by cases na <;> cases nb <;> simp_all
  subst hnb
  refine St.condF rfl (by cases na <;> rfl) ?_
  (iterate 6 ((repeat with_reducible first|refine .nil ?_|refine .then_normal ?_|refine .block_normal ?_|refine .seq ?_|refine .block ?_|refine .skip ?_|refine .region ?_|refine .ret ?_|refine .then_ret ?_|refine .block_ret ?_|refine .exit ?_|refine .then_exit ?_|refine .block_exit ?_|refine .block_other rfl ?_); try refine .run TBok 99 rfl ?_))
  refine StL.step rfl rfl rfl (OpR.call fn_integer_compareNat rfl (compareNat_spec w1 _ _ m k h1 k1 (by omega) (by omega))) ?_
  rintro _ w2 ⟨hx2, rfl⟩
  have h2 := h1.ext hx2
  have k2 := k1.ext hx2
  have hb2 := hb.ext hx2
  have hx12 := hx1.trans hx2
  by_cases hge : k ≤ m
  · refine StL.as TBok 1 (.bool true) rfl (bool_true (by unfold cmpN; rw [if_neg (by omega)]; split <;> decide)) ?_
    (iterate 6 ((repeat with_reducible first|refine .nil ?_|refine .then_normal ?_|refine .block_normal ?_|refine .seq ?_|refine .block ?_|refine .skip ?_|refine .region ?_|refine .ret ?_|refine .then_ret ?_|refine .block_ret ?_|refine .exit ?_|refine .then_exit ?_|refine .block_exit ?_|refine .block_other rfl ?_); try refine .run TBok 99 rfl ?_))
    refine St.condT rfl rfl ?_
    (iterate 6 ((repeat with_reducible first|refine .nil ?_|refine .then_normal ?_|refine .block_normal ?_|refine .seq ?_|refine .block ?_|refine .skip ?_|refine .region ?_|refine .ret ?_|refine .then_ret ?_|refine .block_ret ?_|refine .exit ?_|refine .then_exit ?_|refine .block_exit ?_|refine .block_other rfl ?_); try refine .run TBok 99 rfl ?_))
    have hmono := limbs_length_mono k m hge
    refine StL.step rfl rfl rfl (OpR.call fn_integer_subNat rfl (subNat_spec w2 _ _ _ _ h2 k2 (by omega) (by omega) hmono (by rw [val_limbs, val_limbs]; exact hge))) ?_
    rintro sl w3 ⟨hx3, hsl⟩
    rw [val_limbs, val_limbs] at hsl
    have hll := limbs_length_mono (m - k) m (Nat.sub_le _ _)
    refine StL.step rfl rfl rfl (OpR.call fn_integer_build rfl (build_spec' w3 na sl (m - k) hsl (by omega))) ?_
    rintro r w4 ⟨hx4, hv⟩
    rw [sg_diff _ _ _ hge] at hv
    refine StL.finCan rfl rfl ((hb2.ext hx3).ext hx4) rfl hv ((hx12.trans hx3).trans hx4) (Nat.le_refl _) ?_
    intro w' hxf hcf fin
    (repeat with_reducible first|refine .nil ?_|refine .then_normal ?_|refine .block_normal ?_|refine .seq ?_|refine .block ?_|refine .skip ?_|refine .region ?_|refine .ret ?_|refine .then_ret ?_|refine .block_ret ?_|refine .exit ?_|refine .then_exit ?_|refine .block_exit ?_|refine .block_other rfl ?_)
    exact fin _ _ rfl ⟨hxf, hcf⟩
  · refine StL.as TBok 1 (.bool false) rfl (bool_false (by unfold cmpN; rw [if_pos (by omega)]; decide)) ?_
    (iterate 6 ((repeat with_reducible first|refine .nil ?_|refine .then_normal ?_|refine .block_normal ?_|refine .seq ?_|refine .block ?_|refine .skip ?_|refine .region ?_|refine .ret ?_|refine .then_ret ?_|refine .block_ret ?_|refine .exit ?_|refine .then_exit ?_|refine .block_exit ?_|refine .block_other rfl ?_); try refine .run TBok 99 rfl ?_))
    refine St.condF rfl rfl ?_
    (iterate 6 ((repeat with_reducible first|refine .nil ?_|refine .then_normal ?_|refine .block_normal ?_|refine .seq ?_|refine .block ?_|refine .skip ?_|refine .region ?_|refine .ret ?_|refine .then_ret ?_|refine .block_ret ?_|refine .exit ?_|refine .then_exit ?_|refine .block_exit ?_|refine .block_other rfl ?_); try refine .run TBok 99 rfl ?_))
    have hmono := limbs_length_mono m k (by omega)
    refine StL.step rfl rfl rfl (OpR.call fn_integer_subNat rfl (subNat_spec w2 _ _ _ _ k2 h2 (by omega) (by omega) hmono (by rw [val_limbs, val_limbs]; omega))) ?_
    rintro sl w3 ⟨hx3, hsl⟩
    rw [val_limbs, val_limbs] at hsl
    have hll := limbs_length_mono (k - m) k (Nat.sub_le _ _)
    refine StL.step rfl rfl rfl (OpR.call fn_integer_build rfl (build_spec' w3 (!na) sl (k - m) hsl (by omega))) ?_
    rintro r w4 ⟨hx4, hv⟩
    rw [sg_diff _ _ _ (by omega), Bool.not_not, Int.add_comm] at hv
    refine StL.finCan rfl rfl ((hb2.ext hx3).ext hx4) rfl hv ((hx12.trans hx3).trans hx4) (Nat.le_refl _) ?_
    intro w' hxf hcf fin
    (repeat with_reducible first|refine .nil ?_|refine .then_normal ?_|refine .block_normal ?_|refine .seq ?_|refine .block ?_|refine .skip ?_|refine .region ?_|refine .ret ?_|refine .then_ret ?_|refine .block_ret ?_|refine .exit ?_|refine .then_exit ?_|refine .block_exit ?_|refine .block_other rfl ?_)
    exact fin _ _ rfl ⟨hxf, hcf⟩

/-- The limbs of a struct, trimmed. -/
theorem Den.trimmed {w : World} {neg : Bool} {p : Option Addr} {cap : Nat} {xs : List Nat} (hs : Sl w (.slice p xs.length cap) xs) : Sl w (.slice p (limbs (val xs)).length cap) (limbs (val xs)) := by
  have := hs.cut (limbs (val xs)).length (limbs_length_le _ hs.2)
  rwa [← limbs_is_take hs.2] at this

theorem pointer_add0 (b : Nat) : Addr.add ⟨b, 0, none⟩ 0 = ⟨b, 0, none⟩ := rfl

set_option maxRecDepth 8000 in
set_option maxHeartbeats 400000 in
theorem add_spec (w : World) (x y : Value) (na nb : Bool) (xs ys : List Nat) (h : Den w x na xs) (k : Den w y nb ys) (hlen : xs.length ≤ 10000000) (hl : ys.length ≤ 10000000) :
    Calls Try.prog 25 #[x, y] w (Ret fun r w' => Ext w w' ∧ Can w' r (sg na (val xs) + sg nb (val ys))) := by
  obtain ⟨p, cap, rfl, hs⟩ := h
  obtain ⟨q, cb, rfl, ks⟩ := k
  refine calls_of_St (args := [_, _]) Try.func25 rfl Try.ntmps25 rfl ?_
  (repeat with_reducible first|refine .nil ?_|refine .then_normal ?_|refine .block_normal ?_|refine .seq ?_|refine .block ?_|refine .skip ?_|refine .region ?_|refine .ret ?_|refine .then_ret ?_|refine .block_ret ?_|refine .exit ?_|refine .then_exit ?_|refine .block_exit ?_|refine .block_other rfl ?_)
  refine StL.step rfl rfl rfl (OpR.box rfl) ?_
  rintro _ w1 ⟨rfl, hb1, hx1, _⟩
  refine StL.step rfl rfl rfl (OpR.box rfl) ?_
  rintro _ w2 ⟨rfl, hb2, hx2, _⟩
  refine StL.step rfl rfl rfl (OpR.alloc TBok rfl) ?_
  rintro _ w3 ⟨rfl, hb3, hx3, _⟩
  have hx03 := (hx1.trans hx2).trans hx3
  have h3 := hs.ext hx03
  have k3 := ks.ext hx03
  have hba := (hb1.ext hx2).ext hx3
  have hbb := hb2.ext hx3
  have hl1 := limbs_length_le xs hs.2
  have hl2 := limbs_length_le ys ks.2
  (repeat with_reducible first|refine .nil ?_|refine .then_normal ?_|refine .block_normal ?_|refine .seq ?_|refine .block ?_|refine .skip ?_|refine .region ?_|refine .ret ?_|refine .then_ret ?_|refine .block_ret ?_|refine .exit ?_|refine .then_exit ?_|refine .block_exit ?_|refine .block_other rfl ?_)
  refine St.draw 11 [(5, Is (.pointer (some ⟨w.heap.size, 0, none⟩))), (6, Is (.bool na)), (7, Is (.pointer (some ⟨w.heap.size, 1, none⟩))), (8, Is (.slice p xs.length cap)), (9, Is (.slice p (limbs (val xs)).length cap)), (10, Is (.pointer (some ⟨w1.heap.size, 0, none⟩))), (11, Is (.bool nb)), (12, Is (.pointer (some ⟨w1.heap.size, 1, none⟩))), (13, Is (.slice q ys.length cb)), (14, Is (.slice q (limbs (val ys)).length cb)), (15, fun v w' => Can w' v (sg na (val xs) + sg nb (val ys)))] TBfol (by kernel_rfl) rfl (by kernel_rfl) (by kernel_rfl)
    ⟨Is.mono _, Is.mono _, Is.mono _, Is.mono _, Is.mono _, Is.mono _, Is.mono _, Is.mono _, Is.mono _, Is.mono _, fun _ _ _ hx hv => hv.ext hx, trivial⟩ ?_ ?_
  · refine ⟨?_, ?_, ?_, ?_, ?_, ?_, ?_, ?_, ?_, ?_, ?_, trivial⟩
    · exact fun w4 hx4 => OpG.pure TBok rfl rfl rfl rfl rfl rfl
    · rintro w4 hx4 _ rfl
      exact OpG.run rfl rfl rfl rfl (RunsTo.load TBok rfl rfl rfl ((hba.ext hx4).cell rfl)) rfl
    · exact fun w4 hx4 => OpG.pure TBok rfl rfl rfl rfl rfl rfl
    · rintro w4 hx4 _ rfl
      exact OpG.run rfl rfl rfl rfl (RunsTo.load TBok rfl rfl rfl ((hba.ext hx4).cell rfl)) rfl
    · rintro w4 hx4 _ rfl
      refine OpG.call fn_integer_trim rfl rfl rfl (trim_spec w4 _ _ (h3.ext hx4) (by omega)) ?_
      rintro v w5 ⟨rfl, rfl, _⟩
      exact ⟨Ext.refl _, rfl⟩
    · exact fun w4 hx4 => OpG.pure TBok rfl rfl rfl rfl rfl rfl
    · rintro w4 hx4 _ rfl
      exact OpG.run rfl rfl rfl rfl (RunsTo.load TBok rfl rfl rfl ((hbb.ext hx4).cell rfl)) rfl
    · exact fun w4 hx4 => OpG.pure TBok rfl rfl rfl rfl rfl rfl
    · rintro w4 hx4 _ rfl
      exact OpG.run rfl rfl rfl rfl (RunsTo.load TBok rfl rfl rfl ((hbb.ext hx4).cell rfl)) rfl
    · rintro w4 hx4 _ rfl
      refine OpG.call fn_integer_trim rfl rfl rfl (trim_spec w4 _ _ (k3.ext hx4) (by omega)) ?_
      rintro v w5 ⟨rfl, rfl, _⟩
      exact ⟨Ext.refl _, rfl⟩
    · rintro w4 hx4 _ rfl _ rfl _ rfl _ rfl
      exact OpG.call fn_integer_addSigned rfl rfl rfl (addSigned_spec w4 na nb _ _ _ _ (Den.trimmed (neg := na) (h3.ext hx4)) (Den.trimmed (neg := nb) (k3.ext hx4)) (by omega) (by omega)) (fun v w' hv => hv)
  intro w4 hx4 v5 _ v6 _ v7 _ v8 _ v9 _ v10 _ v11 _ v12 _ v13 _ v14 _ v15 h15 _
  refine StL.finCan rfl rfl (hb3.ext hx4) rfl h15 (hx03.trans hx4) (hx1.trans hx2).size ?_
  intro w' hxf hcf fin
  (repeat with_reducible first|refine .nil ?_|refine .then_normal ?_|refine .block_normal ?_|refine .seq ?_|refine .block ?_|refine .skip ?_|refine .region ?_|refine .ret ?_|refine .then_ret ?_|refine .block_ret ?_|refine .exit ?_|refine .then_exit ?_|refine .block_exit ?_|refine .block_other rfl ?_)
  exact fin _ _ rfl ⟨hxf, hcf⟩

set_option maxRecDepth 8000 in
set_option maxHeartbeats 400000 in
theorem sub_spec (w : World) (x y : Value) (na nb : Bool) (xs ys : List Nat) (h : Den w x na xs) (k : Den w y nb ys) (hlen : xs.length ≤ 10000000) (hl : ys.length ≤ 10000000) :
    Calls Try.prog 26 #[x, y] w (Ret fun r w' => Ext w w' ∧ Can w' r (sg na (val xs) + sg (!nb) (val ys))) := by
  obtain ⟨p, cap, rfl, hs⟩ := h
  obtain ⟨q, cb, rfl, ks⟩ := k
  refine calls_of_St (args := [_, _]) Try.func26 rfl Try.ntmps26 rfl ?_
  (repeat with_reducible first|refine .nil ?_|refine .then_normal ?_|refine .block_normal ?_|refine .seq ?_|refine .block ?_|refine .skip ?_|refine .region ?_|refine .ret ?_|refine .then_ret ?_|refine .block_ret ?_|refine .exit ?_|refine .then_exit ?_|refine .block_exit ?_|refine .block_other rfl ?_)
  refine StL.step rfl rfl rfl (OpR.box rfl) ?_
  rintro _ w1 ⟨rfl, hb1, hx1, _⟩
  refine StL.step rfl rfl rfl (OpR.box rfl) ?_
  rintro _ w2 ⟨rfl, hb2, hx2, _⟩
  refine StL.step rfl rfl rfl (OpR.alloc TBok rfl) ?_
  rintro _ w3 ⟨rfl, hb3, hx3, _⟩
  have hx03 := (hx1.trans hx2).trans hx3
  have h3 := hs.ext hx03
  have k3 := ks.ext hx03
  have hba := (hb1.ext hx2).ext hx3
  have hbb := hb2.ext hx3
  have hl1 := limbs_length_le xs hs.2
  have hl2 := limbs_length_le ys ks.2
  (repeat with_reducible first|refine .nil ?_|refine .then_normal ?_|refine .block_normal ?_|refine .seq ?_|refine .block ?_|refine .skip ?_|refine .region ?_|refine .ret ?_|refine .then_ret ?_|refine .block_ret ?_|refine .exit ?_|refine .then_exit ?_|refine .block_exit ?_|refine .block_other rfl ?_)
  refine St.draw 12 [(5, Is (.pointer (some ⟨w.heap.size, 0, none⟩))), (6, Is (.bool na)), (7, Is (.pointer (some ⟨w.heap.size, 1, none⟩))), (8, Is (.slice p xs.length cap)), (9, Is (.slice p (limbs (val xs)).length cap)), (10, Is (.pointer (some ⟨w1.heap.size, 0, none⟩))), (11, Is (.bool nb)), (12, Is (.bool (!nb))), (13, Is (.pointer (some ⟨w1.heap.size, 1, none⟩))), (14, Is (.slice q ys.length cb)), (15, Is (.slice q (limbs (val ys)).length cb)), (16, fun v w' => Can w' v (sg na (val xs) + sg (!nb) (val ys)))] TBfol (by kernel_rfl) rfl (by kernel_rfl) (by kernel_rfl)
    ⟨Is.mono _, Is.mono _, Is.mono _, Is.mono _, Is.mono _, Is.mono _, Is.mono _, Is.mono _, Is.mono _, Is.mono _, Is.mono _, fun _ _ _ hx hv => hv.ext hx, trivial⟩ ?_ ?_
  · refine ⟨?_, ?_, ?_, ?_, ?_, ?_, ?_, ?_, ?_, ?_, ?_, ?_, trivial⟩
    · exact fun w4 hx4 => OpG.pure TBok rfl rfl rfl rfl rfl rfl
    · rintro w4 hx4 _ rfl
      exact OpG.run rfl rfl rfl rfl (RunsTo.load TBok rfl rfl rfl ((hba.ext hx4).cell rfl)) rfl
    · exact fun w4 hx4 => OpG.pure TBok rfl rfl rfl rfl rfl rfl
    · rintro w4 hx4 _ rfl
      exact OpG.run rfl rfl rfl rfl (RunsTo.load TBok rfl rfl rfl ((hba.ext hx4).cell rfl)) rfl
    · rintro w4 hx4 _ rfl
      refine OpG.call fn_integer_trim rfl rfl rfl (trim_spec w4 _ _ (h3.ext hx4) (by omega)) ?_
      rintro v w5 ⟨rfl, rfl, _⟩
      exact ⟨Ext.refl _, rfl⟩
    · exact fun w4 hx4 => OpG.pure TBok rfl rfl rfl rfl rfl rfl
    · rintro w4 hx4 _ rfl
      exact OpG.run rfl rfl rfl rfl (RunsTo.load TBok rfl rfl rfl ((hbb.ext hx4).cell rfl)) rfl
    · rintro w4 hx4 _ rfl
      exact OpG.pure TBok rfl rfl rfl rfl rfl rfl
    · exact fun w4 hx4 => OpG.pure TBok rfl rfl rfl rfl rfl rfl
    · rintro w4 hx4 _ rfl
      exact OpG.run rfl rfl rfl rfl (RunsTo.load TBok rfl rfl rfl ((hbb.ext hx4).cell rfl)) rfl
    · rintro w4 hx4 _ rfl
      refine OpG.call fn_integer_trim rfl rfl rfl (trim_spec w4 _ _ (k3.ext hx4) (by omega)) ?_
      rintro v w5 ⟨rfl, rfl, _⟩
      exact ⟨Ext.refl _, rfl⟩
    · rintro w4 hx4 _ rfl _ rfl _ rfl _ rfl
      exact OpG.call fn_integer_addSigned rfl rfl rfl (addSigned_spec w4 na (!nb) _ _ _ _ (Den.trimmed (neg := na) (h3.ext hx4)) (Den.trimmed (neg := nb) (k3.ext hx4)) (by omega) (by omega)) (fun v w' hv => hv)
  intro w4 hx4 v5 _ v6 _ v7 _ v8 _ v9 _ v10 _ v11 _ v12 _ v13 _ v14 _ v15 _ v16 h16 _
  refine StL.finCan rfl rfl (hb3.ext hx4) rfl h16 (hx03.trans hx4) (hx1.trans hx2).size ?_
  intro w' hxf hcf fin
  (repeat with_reducible first|refine .nil ?_|refine .then_normal ?_|refine .block_normal ?_|refine .seq ?_|refine .block ?_|refine .skip ?_|refine .region ?_|refine .ret ?_|refine .then_ret ?_|refine .block_ret ?_|refine .exit ?_|refine .then_exit ?_|refine .block_exit ?_|refine .block_other rfl ?_)
  exact fin _ _ rfl ⟨hxf, hcf⟩

theorem sg_not (neg : Bool) (m : Nat) : sg (!neg) m = - sg neg m := by
  cases neg <;> simp [sg]

/-- An Int out of its variable. -/
theorem RunsTo.loadInt {n : Nat} {E : List (Nat × Value)} {w : World} {d : Option Tmp} {x : Operand} {ty : TypeId} {pos : String} {af : Array Edge} {g : Option (Nat × Bool)} {b : Nat} {cs : List Value} {v : Value} (hx : ov E x = some (.pointer (some ⟨b, 0, none⟩))) (hb : Blk 24 w b cs) (hl : cs.length = 2) (hv : v = .agg cs.toArray) :
    RunsTo Try.prog n ⟨d, .load 24 x, ty, pos, af, g⟩ E w v := by
  subst hv
  refine RunsTo.loadAgg TBok rfl rfl hx hb (by rw [hl]; exact Nat.le_refl 2) ?_
  rw [List.drop_zero]
  exact List.take_of_length_le (by rw [hl]; exact Nat.le_refl 2)

end Go.Qf

/- integer.Sign, Mul, Gcd, Normalize, Neg, Sqrt. -/
namespace Go.Qf
open Go Go.RowKit Go.Proofs

/-- The sign of an integer. -/
def signI (a : Int) : Int := if a < 0 then -1 else if a = 0 then 0 else 1

theorem signI_sg (neg : Bool) (m : Nat) : signI (sg neg m) = if m = 0 then 0 else if neg then -1 else 1 := by
  unfold signI sg
  cases neg <;> by_cases h : m = 0 <;> simp [h] <;> omega

set_option maxRecDepth 4000 in
theorem sign_spec (w : World) (v : Value) (neg : Bool) (xs : List Nat) (h : Den w v neg xs) (hlen : xs.length ≤ 100000000) :
    Calls Try.prog 35 #[v] w (Ret fun r w' => Ext w w' ∧ r = .int .i64 (signI (sg neg (val xs)))) := by
  obtain ⟨p, cap, rfl, hs⟩ := h
  refine calls_of_St (args := [_]) Try.func35 rfl Try.ntmps35 rfl ?_
  (repeat with_reducible first|refine .nil ?_|refine .then_normal ?_|refine .block_normal ?_|refine .seq ?_|refine .block ?_|refine .skip ?_|refine .region ?_|refine .ret ?_|refine .then_ret ?_|refine .block_ret ?_|refine .exit ?_|refine .then_exit ?_|refine .block_exit ?_|refine .block_other rfl ?_)
  refine StL.step rfl rfl rfl (OpR.box rfl) ?_
  rintro _ w1 ⟨rfl, hb, hx1, _⟩
  have hs1 := hs.ext hx1
  (iterate 6 ((repeat with_reducible first|refine .nil ?_|refine .then_normal ?_|refine .block_normal ?_|refine .seq ?_|refine .block ?_|refine .skip ?_|refine .region ?_|refine .ret ?_|refine .then_ret ?_|refine .block_ret ?_|refine .exit ?_|refine .then_exit ?_|refine .block_exit ?_|refine .block_other rfl ?_); try refine .run TBok 99 rfl ?_))
  refine StL.step rfl rfl rfl (RunsTo.load TBok rfl rfl rfl (hb.cell rfl)).op ?_
  rintro _ _ ⟨rfl, rfl⟩
  refine StL.step rfl rfl rfl (OpR.call fn_integer_trim rfl (trim_spec w1 _ _ hs1 (by omega))) ?_
  rintro _ w2 ⟨rfl, rfl, _⟩
  rw [signI_sg]
  (iterate 6 ((repeat with_reducible first|refine .nil ?_|refine .then_normal ?_|refine .block_normal ?_|refine .seq ?_|refine .block ?_|refine .skip ?_|refine .region ?_|refine .ret ?_|refine .then_ret ?_|refine .block_ret ?_|refine .exit ?_|refine .then_exit ?_|refine .block_exit ?_|refine .block_other rfl ?_); try refine .run TBok 99 rfl ?_))
  by_cases h0 : val xs = 0
  · refine St.condT rfl (by rw [h0]; rfl) ?_
    (iterate 6 ((repeat with_reducible first|refine .nil ?_|refine .then_normal ?_|refine .block_normal ?_|refine .seq ?_|refine .block ?_|refine .skip ?_|refine .region ?_|refine .ret ?_|refine .then_ret ?_|refine .block_ret ?_|refine .exit ?_|refine .then_exit ?_|refine .block_exit ?_|refine .block_other rfl ?_); try refine .run TBok 99 rfl ?_))
    exact Out.ret1 rfl rfl ⟨hx1, by rw [if_pos h0]⟩
  refine St.condF rfl (by simp [limbs_eq_nil, h0]) ?_
  (iterate 6 ((repeat with_reducible first|refine .nil ?_|refine .then_normal ?_|refine .block_normal ?_|refine .seq ?_|refine .block ?_|refine .skip ?_|refine .region ?_|refine .ret ?_|refine .then_ret ?_|refine .block_ret ?_|refine .exit ?_|refine .then_exit ?_|refine .block_exit ?_|refine .block_other rfl ?_); try refine .run TBok 99 rfl ?_))
  refine StL.step rfl rfl rfl (RunsTo.load TBok rfl rfl rfl (hb.cell rfl)).op ?_
  rintro _ _ ⟨rfl, rfl⟩
  (iterate 6 ((repeat with_reducible first|refine .nil ?_|refine .then_normal ?_|refine .block_normal ?_|refine .seq ?_|refine .block ?_|refine .skip ?_|refine .region ?_|refine .ret ?_|refine .then_ret ?_|refine .block_ret ?_|refine .exit ?_|refine .then_exit ?_|refine .block_exit ?_|refine .block_other rfl ?_); try refine .run TBok 99 rfl ?_))
  cases neg with
  | true =>
    refine St.condT rfl rfl ?_
    (iterate 6 ((repeat with_reducible first|refine .nil ?_|refine .then_normal ?_|refine .block_normal ?_|refine .seq ?_|refine .block ?_|refine .skip ?_|refine .region ?_|refine .ret ?_|refine .then_ret ?_|refine .block_ret ?_|refine .exit ?_|refine .then_exit ?_|refine .block_exit ?_|refine .block_other rfl ?_); try refine .run TBok 99 rfl ?_))
    exact Out.ret1 rfl rfl ⟨hx1, by rw [if_neg h0]; rfl⟩
  | false =>
    refine St.condF rfl rfl ?_
    (iterate 6 ((repeat with_reducible first|refine .nil ?_|refine .then_normal ?_|refine .block_normal ?_|refine .seq ?_|refine .block ?_|refine .skip ?_|refine .region ?_|refine .ret ?_|refine .then_ret ?_|refine .block_ret ?_|refine .exit ?_|refine .then_exit ?_|refine .block_exit ?_|refine .block_other rfl ?_); try refine .run TBok 99 rfl ?_))
    exact Out.ret1 rfl rfl ⟨hx1, by rw [if_neg h0]; rfl⟩

theorem sg_mul (na nb : Bool) (m k : Nat) : sg (!(na == nb)) (m * k) = sg na m * sg nb k := by
  cases na <;> cases nb <;> simp [sg, Int.mul_neg, Int.neg_mul]

set_option maxRecDepth 8000 in
set_option maxHeartbeats 400000 in
theorem mul_spec (w : World) (x y : Value) (na nb : Bool) (xs ys : List Nat) (h : Den w x na xs) (k : Den w y nb ys) (hlen : xs.length ≤ 10000000) (hl : ys.length ≤ 10000000) :
    Calls Try.prog 55 #[x, y] w (Ret fun r w' => Ext w w' ∧ Can w' r (sg na (val xs) * sg nb (val ys))) := by
  obtain ⟨p, cap, rfl, hs⟩ := h
  obtain ⟨q, cb, rfl, ks⟩ := k
  refine calls_of_St (args := [_, _]) Try.func55 rfl Try.ntmps55 rfl ?_
  (repeat with_reducible first|refine .nil ?_|refine .then_normal ?_|refine .block_normal ?_|refine .seq ?_|refine .block ?_|refine .skip ?_|refine .region ?_|refine .ret ?_|refine .then_ret ?_|refine .block_ret ?_|refine .exit ?_|refine .then_exit ?_|refine .block_exit ?_|refine .block_other rfl ?_)
  refine StL.step rfl rfl rfl (OpR.box rfl) ?_
  rintro _ w1 ⟨rfl, hb1, hx1, _⟩
  refine StL.step rfl rfl rfl (OpR.box rfl) ?_
  rintro _ w2 ⟨rfl, hb2, hx2, _⟩
  refine StL.step rfl rfl rfl (OpR.alloc TBok rfl) ?_
  rintro _ w3 ⟨rfl, hb3, hx3, _⟩
  have hx03 := (hx1.trans hx2).trans hx3
  have h3 := hs.ext hx03
  have k3 := ks.ext hx03
  have hba := (hb1.ext hx2).ext hx3
  have hbb := hb2.ext hx3
  have hl1 := limbs_length_le xs hs.2
  have hl2 := limbs_length_le ys ks.2
  have hl3 := limbs_mul_length (val xs) (val ys)
  (repeat with_reducible first|refine .nil ?_|refine .then_normal ?_|refine .block_normal ?_|refine .seq ?_|refine .block ?_|refine .skip ?_|refine .region ?_|refine .ret ?_|refine .then_ret ?_|refine .block_ret ?_|refine .exit ?_|refine .then_exit ?_|refine .block_exit ?_|refine .block_other rfl ?_)
  refine St.draw 13 [(5, Is (.pointer (some ⟨w.heap.size, 0, none⟩))), (6, Is (.bool na)), (7, Is (.pointer (some ⟨w1.heap.size, 0, none⟩))), (8, Is (.bool nb)), (9, Is (.bool (!(na == nb)))), (10, Is (.pointer (some ⟨w.heap.size, 1, none⟩))), (11, Is (.slice p xs.length cap)), (12, Is (.slice p (limbs (val xs)).length cap)), (13, Is (.pointer (some ⟨w1.heap.size, 1, none⟩))), (14, Is (.slice q ys.length cb)), (15, Is (.slice q (limbs (val ys)).length cb)), (16, fun v w' => SlO 0 w' v (limbs (val xs * val ys))), (17, fun v w' => Can w' v (sg na (val xs) * sg nb (val ys)))] TBfol (by kernel_rfl) rfl (by kernel_rfl) (by kernel_rfl)
    ⟨Is.mono _, Is.mono _, Is.mono _, Is.mono _, Is.mono _, Is.mono _, Is.mono _, Is.mono _, Is.mono _, Is.mono _, Is.mono _, fun _ _ _ hx hv => hv.ext hx, fun _ _ _ hx hv => hv.ext hx, trivial⟩ ?_ ?_
  · refine ⟨?_, ?_, ?_, ?_, ?_, ?_, ?_, ?_, ?_, ?_, ?_, ?_, ?_, trivial⟩
    · exact fun w4 hx4 => OpG.pure TBok rfl rfl rfl rfl rfl rfl
    · rintro w4 hx4 _ rfl
      exact OpG.run rfl rfl rfl rfl (RunsTo.load TBok rfl rfl rfl ((hba.ext hx4).cell rfl)) rfl
    · exact fun w4 hx4 => OpG.pure TBok rfl rfl rfl rfl rfl rfl
    · rintro w4 hx4 _ rfl
      exact OpG.run rfl rfl rfl rfl (RunsTo.load TBok rfl rfl rfl ((hbb.ext hx4).cell rfl)) rfl
    · rintro w4 hx4 _ rfl _ rfl
      exact OpG.run rfl rfl rfl rfl (RunsTo.boolNe TBok rfl rfl rfl) rfl
    · exact fun w4 hx4 => OpG.pure TBok rfl rfl rfl rfl rfl rfl
    · rintro w4 hx4 _ rfl
      exact OpG.run rfl rfl rfl rfl (RunsTo.load TBok rfl rfl rfl ((hba.ext hx4).cell rfl)) rfl
    · rintro w4 hx4 _ rfl
      refine OpG.call fn_integer_trim rfl rfl rfl (trim_spec w4 _ _ (h3.ext hx4) (by omega)) ?_
      rintro v w5 ⟨rfl, rfl, _⟩
      exact ⟨Ext.refl _, rfl⟩
    · exact fun w4 hx4 => OpG.pure TBok rfl rfl rfl rfl rfl rfl
    · rintro w4 hx4 _ rfl
      exact OpG.run rfl rfl rfl rfl (RunsTo.load TBok rfl rfl rfl ((hbb.ext hx4).cell rfl)) rfl
    · rintro w4 hx4 _ rfl
      refine OpG.call fn_integer_trim rfl rfl rfl (trim_spec w4 _ _ (k3.ext hx4) (by omega)) ?_
      rintro v w5 ⟨rfl, rfl, _⟩
      exact ⟨Ext.refl _, rfl⟩
    · rintro w4 hx4 _ rfl _ rfl
      refine OpG.call fn_integer_mulNat rfl rfl rfl (mulNat_spec w4 _ _ _ _ (Den.trimmed (neg := na) (h3.ext hx4)) (Den.trimmed (neg := nb) (k3.ext hx4)) (by omega) (by omega)) ?_
      rintro v w5 ⟨hx5, hv⟩
      rw [val_limbs, val_limbs] at hv
      exact ⟨hx5, hv.mono (Nat.zero_le _)⟩
    · rintro w4 hx4 _ rfl v16 h16
      refine OpG.call fn_integer_build rfl rfl rfl (build_spec' w4 _ v16 _ h16 (by omega)) ?_
      rintro v w5 ⟨hx5, hv⟩
      rw [sg_mul] at hv
      exact ⟨hx5, hv⟩
  intro w4 hx4 v5 _ v6 _ v7 _ v8 _ v9 _ v10 _ v11 _ v12 _ v13 _ v14 _ v15 _ v16 _ v17 h17 _
  refine StL.finCan rfl rfl (hb3.ext hx4) rfl h17 (hx03.trans hx4) (hx1.trans hx2).size ?_
  intro w' hxf hcf fin
  (repeat with_reducible first|refine .nil ?_|refine .then_normal ?_|refine .block_normal ?_|refine .seq ?_|refine .block ?_|refine .skip ?_|refine .region ?_|refine .ret ?_|refine .then_ret ?_|refine .block_ret ?_|refine .exit ?_|refine .then_exit ?_|refine .block_exit ?_|refine .block_other rfl ?_)
  exact fin _ _ rfl ⟨hxf, hcf⟩

set_option maxRecDepth 8000 in
set_option maxHeartbeats 400000 in
theorem igcd_spec (w : World) (x y : Value) (na nb : Bool) (xs ys : List Nat) (h : Den w x na xs) (k : Den w y nb ys) (hlen : xs.length ≤ 10000000) (hl : ys.length ≤ 10000000) :
    Calls Try.prog 49 #[x, y] w (Ret fun r w' => Ext w w' ∧ Can w' r ((Nat.gcd (val xs) (val ys) : Nat) : Int)) := by
  obtain ⟨p, cap, rfl, hs⟩ := h
  obtain ⟨q, cb, rfl, ks⟩ := k
  refine calls_of_St (args := [_, _]) Try.func49 rfl Try.ntmps49 rfl ?_
  (repeat with_reducible first|refine .nil ?_|refine .then_normal ?_|refine .block_normal ?_|refine .seq ?_|refine .block ?_|refine .skip ?_|refine .region ?_|refine .ret ?_|refine .then_ret ?_|refine .block_ret ?_|refine .exit ?_|refine .then_exit ?_|refine .block_exit ?_|refine .block_other rfl ?_)
  refine StL.step rfl rfl rfl (OpR.box rfl) ?_
  rintro _ w1 ⟨rfl, hb1, hx1, _⟩
  refine StL.step rfl rfl rfl (OpR.box rfl) ?_
  rintro _ w2 ⟨rfl, hb2, hx2, _⟩
  refine StL.step rfl rfl rfl (OpR.alloc TBok rfl) ?_
  rintro _ w3 ⟨rfl, hb3, hx3, _⟩
  have hx03 := (hx1.trans hx2).trans hx3
  have h3 := hs.ext hx03
  have k3 := ks.ext hx03
  have hba := (hb1.ext hx2).ext hx3
  have hbb := hb2.ext hx3
  have hl1 := limbs_length_le xs hs.2
  have hl2 := limbs_length_le ys ks.2
  have hl3 : (limbs (Nat.gcd (val xs) (val ys))).length ≤ 10000000 := by
    rcases Nat.eq_zero_or_pos (val xs) with h0 | h0
    · rw [h0, Nat.gcd_zero_left]; omega
    · exact Nat.le_trans (limbs_length_mono _ _ (Nat.gcd_le_left _ h0)) (by omega)
  (repeat with_reducible first|refine .nil ?_|refine .then_normal ?_|refine .block_normal ?_|refine .seq ?_|refine .block ?_|refine .skip ?_|refine .region ?_|refine .ret ?_|refine .then_ret ?_|refine .block_ret ?_|refine .exit ?_|refine .then_exit ?_|refine .block_exit ?_|refine .block_other rfl ?_)
  refine St.draw 8 [(5, Is (.pointer (some ⟨w.heap.size, 1, none⟩))), (6, Is (.slice p xs.length cap)), (7, Is (.slice p (limbs (val xs)).length cap)), (8, Is (.pointer (some ⟨w1.heap.size, 1, none⟩))), (9, Is (.slice q ys.length cb)), (10, Is (.slice q (limbs (val ys)).length cb)), (11, fun v w' => SlO 0 w' v (limbs (Nat.gcd (val xs) (val ys)))), (12, fun v w' => Can w' v ((Nat.gcd (val xs) (val ys) : Nat) : Int))] TBfol (by kernel_rfl) rfl (by kernel_rfl) (by kernel_rfl)
    ⟨Is.mono _, Is.mono _, Is.mono _, Is.mono _, Is.mono _, Is.mono _, fun _ _ _ hx hv => hv.ext hx, fun _ _ _ hx hv => hv.ext hx, trivial⟩ ?_ ?_
  · refine ⟨?_, ?_, ?_, ?_, ?_, ?_, ?_, ?_, trivial⟩
    · exact fun w4 hx4 => OpG.pure TBok rfl rfl rfl rfl rfl rfl
    · rintro w4 hx4 _ rfl
      exact OpG.run rfl rfl rfl rfl (RunsTo.load TBok rfl rfl rfl ((hba.ext hx4).cell rfl)) rfl
    · rintro w4 hx4 _ rfl
      refine OpG.call fn_integer_trim rfl rfl rfl (trim_spec w4 _ _ (h3.ext hx4) (by omega)) ?_
      rintro v w5 ⟨rfl, rfl, _⟩
      exact ⟨Ext.refl _, rfl⟩
    · exact fun w4 hx4 => OpG.pure TBok rfl rfl rfl rfl rfl rfl
    · rintro w4 hx4 _ rfl
      exact OpG.run rfl rfl rfl rfl (RunsTo.load TBok rfl rfl rfl ((hbb.ext hx4).cell rfl)) rfl
    · rintro w4 hx4 _ rfl
      refine OpG.call fn_integer_trim rfl rfl rfl (trim_spec w4 _ _ (k3.ext hx4) (by omega)) ?_
      rintro v w5 ⟨rfl, rfl, _⟩
      exact ⟨Ext.refl _, rfl⟩
    · rintro w4 hx4 _ rfl _ rfl
      refine OpG.call fn_integer_gcdNat rfl rfl rfl (gcdNat_spec w4 _ _ _ _ (Den.trimmed (neg := na) (h3.ext hx4)) (Den.trimmed (neg := nb) (k3.ext hx4)) (by omega) (by omega)) ?_
      rintro v w5 ⟨hx5, hv⟩
      exact ⟨hx5, hv.mono (Nat.zero_le _)⟩
    · rintro w4 hx4 v11 h11
      refine OpG.call fn_integer_build rfl rfl rfl (build_spec' w4 false v11 _ h11 (by omega)) ?_
      rintro v w5 ⟨hx5, hv⟩
      exact ⟨hx5, hv⟩
  intro w4 hx4 v5 _ v6 _ v7 _ v8 _ v9 _ v10 _ v11 _ v12 h12 _
  refine StL.finCan rfl rfl (hb3.ext hx4) rfl h12 (hx03.trans hx4) (hx1.trans hx2).size ?_
  intro w' hxf hcf fin
  (repeat with_reducible first|refine .nil ?_|refine .then_normal ?_|refine .block_normal ?_|refine .seq ?_|refine .block ?_|refine .skip ?_|refine .region ?_|refine .ret ?_|refine .then_ret ?_|refine .block_ret ?_|refine .exit ?_|refine .then_exit ?_|refine .block_exit ?_|refine .block_other rfl ?_)
  exact fin _ _ rfl ⟨hxf, hcf⟩

end Go.Qf

/- integer.Normalize, Neg, Sqrt, Cmp. -/
namespace Go.Qf
open Go Go.RowKit Go.Proofs

theorem clone_trim {w : World} {p : Option Addr} {cap : Nat} {xs : List Nat} (hs : Sl w (.slice p xs.length cap) xs) : Sl w (.slice p (limbs (val xs)).length cap) (limbs (val xs)) := Den.trimmed (neg := true) hs

theorem trim_flow (w : World) (p : Option Addr) (cap : Nat) (xs : List Nat) (h : Sl w (.slice p xs.length cap) xs) (hlen : xs.length ≤ 1000000000) :
    Calls Try.prog 62 #[.slice p xs.length cap] w (Ret fun r w' => Ext w w' ∧ r = .slice p (limbs (val xs)).length cap) := by
  refine (trim_spec w _ xs h hlen).mono ?_
  rintro _ _ ⟨r, rfl, rfl, rfl, _⟩
  exact ⟨_, rfl, Ext.refl _, rfl⟩

theorem clone_flow {base : Nat} (w : World) (v : Value) (xs : List Nat) (h : Sl w v xs) (hlen : xs.length ≤ 1000000000) (hb : base ≤ w.heap.size) :
    Calls Try.prog 77 #[v] w (Ret fun r w' => Ext w w' ∧ SlO base w' r xs) := by
  refine (clone_spec w v xs h hlen).mono ?_
  rintro _ _ ⟨r, rfl, hx, hv⟩
  exact ⟨_, rfl, hx, hv.mono hb⟩

set_option maxRecDepth 8000 in
theorem neg_spec (w : World) (x : Value) (na : Bool) (xs : List Nat) (h : Den w x na xs) (hlen : xs.length ≤ 10000000) :
    Calls Try.prog 53 #[x] w (Ret fun r w' => Ext w w' ∧ Can w' r (- sg na (val xs))) := by
  obtain ⟨p, cap, rfl, hs⟩ := h
  refine calls_of_St (args := [_]) Try.func53 rfl Try.ntmps53 rfl ?_
  (repeat with_reducible first|refine .nil ?_|refine .then_normal ?_|refine .block_normal ?_|refine .seq ?_|refine .block ?_|refine .skip ?_|refine .region ?_|refine .ret ?_|refine .then_ret ?_|refine .block_ret ?_|refine .exit ?_|refine .then_exit ?_|refine .block_exit ?_|refine .block_other rfl ?_)
  refine StL.step rfl rfl rfl (OpR.box rfl) ?_
  rintro _ w1 ⟨rfl, hb1, hx1, hz1⟩
  refine StL.step rfl rfl rfl (OpR.alloc TBok rfl) ?_
  rintro _ w2 ⟨rfl, hb2, hx2, hz2⟩
  have hl1 := limbs_length_le xs hs.2
  (repeat with_reducible first|refine .nil ?_|refine .then_normal ?_|refine .block_normal ?_|refine .seq ?_|refine .block ?_|refine .skip ?_|refine .region ?_|refine .ret ?_|refine .then_ret ?_|refine .block_ret ?_|refine .exit ?_|refine .then_exit ?_|refine .block_exit ?_|refine .block_other rfl ?_)
  refine St.flow 8 TBfol (by kernel_rfl) rfl (by kernel_rfl) rfl True.intro ?_
  refine FL.run TBok 99 rfl ?_
  refine FL.load (L := []) TBok rfl rfl rfl rfl rfl rfl (by first | assumption | exact Ext.refl _ | (apply Blk.ext; assumption; (repeat first | assumption | refine Ext.trans ?_ (by assumption))) | (apply CanO.ext; assumption; (repeat first | assumption | refine Ext.trans ?_ (by assumption))) | (apply Den.ext; assumption; (repeat first | assumption | refine Ext.trans ?_ (by assumption))) | (apply Sl.ext; assumption; (repeat first | assumption | refine Ext.trans ?_ (by assumption))) | (apply SlO.ext; assumption; (repeat first | assumption | refine Ext.trans ?_ (by assumption))) | (apply Dn.ext; assumption; (repeat first | assumption | refine Ext.trans ?_ (by assumption))) | (apply It.ext; assumption; (repeat first | assumption | refine Ext.trans ?_ (by assumption))) | (repeat first | assumption | refine Ext.trans ?_ (by assumption))) (by simp) rfl ?_
  refine FL.run TBok 99 rfl ?_
  refine FL.load (L := []) TBok rfl rfl rfl rfl rfl rfl (by first | assumption | exact Ext.refl _ | (apply Blk.ext; assumption; (repeat first | assumption | refine Ext.trans ?_ (by assumption))) | (apply CanO.ext; assumption; (repeat first | assumption | refine Ext.trans ?_ (by assumption))) | (apply Den.ext; assumption; (repeat first | assumption | refine Ext.trans ?_ (by assumption))) | (apply Sl.ext; assumption; (repeat first | assumption | refine Ext.trans ?_ (by assumption))) | (apply SlO.ext; assumption; (repeat first | assumption | refine Ext.trans ?_ (by assumption))) | (apply Dn.ext; assumption; (repeat first | assumption | refine Ext.trans ?_ (by assumption))) | (apply It.ext; assumption; (repeat first | assumption | refine Ext.trans ?_ (by assumption))) | (repeat first | assumption | refine Ext.trans ?_ (by assumption))) (by simp) rfl ?_
  refine FL.callXE fn_integer_trim rfl rfl rfl (fun w4 hx4 => CallF.mk rfl (trim_flow w4 _ _ _ (by first | assumption | exact Ext.refl _ | (apply Blk.ext; assumption; (repeat first | assumption | refine Ext.trans ?_ (by assumption))) | (apply CanO.ext; assumption; (repeat first | assumption | refine Ext.trans ?_ (by assumption))) | (apply Den.ext; assumption; (repeat first | assumption | refine Ext.trans ?_ (by assumption))) | (apply Sl.ext; assumption; (repeat first | assumption | refine Ext.trans ?_ (by assumption))) | (apply SlO.ext; assumption; (repeat first | assumption | refine Ext.trans ?_ (by assumption))) | (apply Dn.ext; assumption; (repeat first | assumption | refine Ext.trans ?_ (by assumption))) | (apply It.ext; assumption; (repeat first | assumption | refine Ext.trans ?_ (by assumption))) | (repeat first | assumption | refine Ext.trans ?_ (by assumption))) (by omega))) ?_
  refine FL.callE fn_slices_Clone_uint32_uint32 rfl rfl rfl (fun w4 hx4 => CallF.mk rfl (clone_flow w4 _ _ (clone_trim (by first | assumption | exact Ext.refl _ | (apply Blk.ext; assumption; (repeat first | assumption | refine Ext.trans ?_ (by assumption))) | (apply CanO.ext; assumption; (repeat first | assumption | refine Ext.trans ?_ (by assumption))) | (apply Den.ext; assumption; (repeat first | assumption | refine Ext.trans ?_ (by assumption))) | (apply Sl.ext; assumption; (repeat first | assumption | refine Ext.trans ?_ (by assumption))) | (apply SlO.ext; assumption; (repeat first | assumption | refine Ext.trans ?_ (by assumption))) | (apply Dn.ext; assumption; (repeat first | assumption | refine Ext.trans ?_ (by assumption))) | (apply It.ext; assumption; (repeat first | assumption | refine Ext.trans ?_ (by assumption))) | (repeat first | assumption | refine Ext.trans ?_ (by assumption)))) (by omega) (Nat.zero_le _))) (MonoR.slO 0 _) ?_
  refine FL.callE fn_integer_build rfl rfl rfl (fun w4 hx4 v9 h9 => CallF.mk rfl (build_spec' w4 _ v9 _ h9 (by omega))) (MonoR.canO 0 _) ?_
  refine FL.endE rfl ?_
  intro w4 hx4 v10 h10 v9 _ _ _
  rw [sg_not] at h10
  refine StL.finCan rfl rfl (by first | assumption | exact Ext.refl _ | (apply Blk.ext; assumption; (repeat first | assumption | refine Ext.trans ?_ (by assumption))) | (apply CanO.ext; assumption; (repeat first | assumption | refine Ext.trans ?_ (by assumption))) | (apply Den.ext; assumption; (repeat first | assumption | refine Ext.trans ?_ (by assumption))) | (apply Sl.ext; assumption; (repeat first | assumption | refine Ext.trans ?_ (by assumption))) | (apply SlO.ext; assumption; (repeat first | assumption | refine Ext.trans ?_ (by assumption))) | (apply Dn.ext; assumption; (repeat first | assumption | refine Ext.trans ?_ (by assumption))) | (apply It.ext; assumption; (repeat first | assumption | refine Ext.trans ?_ (by assumption))) | (repeat first | assumption | refine Ext.trans ?_ (by assumption))) rfl h10 (w0 := w) (by first | assumption | exact Ext.refl _ | (apply Blk.ext; assumption; (repeat first | assumption | refine Ext.trans ?_ (by assumption))) | (apply CanO.ext; assumption; (repeat first | assumption | refine Ext.trans ?_ (by assumption))) | (apply Den.ext; assumption; (repeat first | assumption | refine Ext.trans ?_ (by assumption))) | (apply Sl.ext; assumption; (repeat first | assumption | refine Ext.trans ?_ (by assumption))) | (apply SlO.ext; assumption; (repeat first | assumption | refine Ext.trans ?_ (by assumption))) | (apply Dn.ext; assumption; (repeat first | assumption | refine Ext.trans ?_ (by assumption))) | (apply It.ext; assumption; (repeat first | assumption | refine Ext.trans ?_ (by assumption))) | (repeat first | assumption | refine Ext.trans ?_ (by assumption))) hx1.size ?_
  intro w' hxf hcf fin
  (repeat with_reducible first|refine .nil ?_|refine .then_normal ?_|refine .block_normal ?_|refine .seq ?_|refine .block ?_|refine .skip ?_|refine .region ?_|refine .ret ?_|refine .then_ret ?_|refine .block_ret ?_|refine .exit ?_|refine .then_exit ?_|refine .block_exit ?_|refine .block_other rfl ?_)
  exact fin _ _ rfl ⟨hxf, hcf⟩

set_option maxRecDepth 8000 in
/-- The result lies in new memory. -/
theorem normalize_spec (w : World) (x : Value) (na : Bool) (xs : List Nat) (h : Den w x na xs) (hlen : xs.length ≤ 10000000) :
    Calls Try.prog 47 #[x] w (Ret fun r w' => Ext w w' ∧ CanO w.heap.size w' r (sg na (val xs))) := by
  obtain ⟨p, cap, rfl, hs⟩ := h
  refine calls_of_St (args := [_]) Try.func47 rfl Try.ntmps47 rfl ?_
  (repeat with_reducible first|refine .nil ?_|refine .then_normal ?_|refine .block_normal ?_|refine .seq ?_|refine .block ?_|refine .skip ?_|refine .region ?_|refine .ret ?_|refine .then_ret ?_|refine .block_ret ?_|refine .exit ?_|refine .then_exit ?_|refine .block_exit ?_|refine .block_other rfl ?_)
  refine StL.step rfl rfl rfl (OpR.box rfl) ?_
  rintro _ w1 ⟨rfl, hb1, hx1, hz1⟩
  refine StL.step rfl rfl rfl (OpR.alloc TBok rfl) ?_
  rintro _ w2 ⟨rfl, hb2, hx2, hz2⟩
  have hl1 := limbs_length_le xs hs.2
  (repeat with_reducible first|refine .nil ?_|refine .then_normal ?_|refine .block_normal ?_|refine .seq ?_|refine .block ?_|refine .skip ?_|refine .region ?_|refine .ret ?_|refine .then_ret ?_|refine .block_ret ?_|refine .exit ?_|refine .then_exit ?_|refine .block_exit ?_|refine .block_other rfl ?_)
  refine St.flow 7 TBfol (by kernel_rfl) rfl (by kernel_rfl) rfl True.intro ?_
  refine FL.run TBok 99 rfl ?_
  refine FL.load (L := []) TBok rfl rfl rfl rfl rfl rfl (by first | assumption | exact Ext.refl _ | (apply Blk.ext; assumption; (repeat first | assumption | refine Ext.trans ?_ (by assumption))) | (apply CanO.ext; assumption; (repeat first | assumption | refine Ext.trans ?_ (by assumption))) | (apply Den.ext; assumption; (repeat first | assumption | refine Ext.trans ?_ (by assumption))) | (apply Sl.ext; assumption; (repeat first | assumption | refine Ext.trans ?_ (by assumption))) | (apply SlO.ext; assumption; (repeat first | assumption | refine Ext.trans ?_ (by assumption))) | (apply Dn.ext; assumption; (repeat first | assumption | refine Ext.trans ?_ (by assumption))) | (apply It.ext; assumption; (repeat first | assumption | refine Ext.trans ?_ (by assumption))) | (repeat first | assumption | refine Ext.trans ?_ (by assumption))) (by simp) rfl ?_
  refine FL.run TBok 99 rfl ?_
  refine FL.load (L := []) TBok rfl rfl rfl rfl rfl rfl (by first | assumption | exact Ext.refl _ | (apply Blk.ext; assumption; (repeat first | assumption | refine Ext.trans ?_ (by assumption))) | (apply CanO.ext; assumption; (repeat first | assumption | refine Ext.trans ?_ (by assumption))) | (apply Den.ext; assumption; (repeat first | assumption | refine Ext.trans ?_ (by assumption))) | (apply Sl.ext; assumption; (repeat first | assumption | refine Ext.trans ?_ (by assumption))) | (apply SlO.ext; assumption; (repeat first | assumption | refine Ext.trans ?_ (by assumption))) | (apply Dn.ext; assumption; (repeat first | assumption | refine Ext.trans ?_ (by assumption))) | (apply It.ext; assumption; (repeat first | assumption | refine Ext.trans ?_ (by assumption))) | (repeat first | assumption | refine Ext.trans ?_ (by assumption))) (by simp) rfl ?_
  refine FL.callXE fn_integer_trim rfl rfl rfl (fun w4 hx4 => CallF.mk rfl (trim_flow w4 _ _ _ (by first | assumption | exact Ext.refl _ | (apply Blk.ext; assumption; (repeat first | assumption | refine Ext.trans ?_ (by assumption))) | (apply CanO.ext; assumption; (repeat first | assumption | refine Ext.trans ?_ (by assumption))) | (apply Den.ext; assumption; (repeat first | assumption | refine Ext.trans ?_ (by assumption))) | (apply Sl.ext; assumption; (repeat first | assumption | refine Ext.trans ?_ (by assumption))) | (apply SlO.ext; assumption; (repeat first | assumption | refine Ext.trans ?_ (by assumption))) | (apply Dn.ext; assumption; (repeat first | assumption | refine Ext.trans ?_ (by assumption))) | (apply It.ext; assumption; (repeat first | assumption | refine Ext.trans ?_ (by assumption))) | (repeat first | assumption | refine Ext.trans ?_ (by assumption))) (by omega))) ?_
  refine FL.callE fn_slices_Clone_uint32_uint32 rfl rfl rfl (fun w4 hx4 => CallF.mk rfl (clone_flow w4 _ _ (clone_trim (by first | assumption | exact Ext.refl _ | (apply Blk.ext; assumption; (repeat first | assumption | refine Ext.trans ?_ (by assumption))) | (apply CanO.ext; assumption; (repeat first | assumption | refine Ext.trans ?_ (by assumption))) | (apply Den.ext; assumption; (repeat first | assumption | refine Ext.trans ?_ (by assumption))) | (apply Sl.ext; assumption; (repeat first | assumption | refine Ext.trans ?_ (by assumption))) | (apply SlO.ext; assumption; (repeat first | assumption | refine Ext.trans ?_ (by assumption))) | (apply Dn.ext; assumption; (repeat first | assumption | refine Ext.trans ?_ (by assumption))) | (apply It.ext; assumption; (repeat first | assumption | refine Ext.trans ?_ (by assumption))) | (repeat first | assumption | refine Ext.trans ?_ (by assumption)))) (by omega) (Nat.le_trans ((hx1.trans hx2).trans hx4).size (Nat.le_refl _)))) (MonoR.slO w.heap.size _) ?_
  refine FL.callE fn_integer_build rfl rfl rfl (fun w4 hx4 v9 h9 => CallF.mk rfl (build_specO w4 _ v9 _ h9 (by omega))) (MonoR.canO w.heap.size _) ?_
  refine FL.endE rfl ?_
  intro w4 hx4 v10 h10 v9 _ _ _
  refine StL.finCan rfl rfl (by first | assumption | exact Ext.refl _ | (apply Blk.ext; assumption; (repeat first | assumption | refine Ext.trans ?_ (by assumption))) | (apply CanO.ext; assumption; (repeat first | assumption | refine Ext.trans ?_ (by assumption))) | (apply Den.ext; assumption; (repeat first | assumption | refine Ext.trans ?_ (by assumption))) | (apply Sl.ext; assumption; (repeat first | assumption | refine Ext.trans ?_ (by assumption))) | (apply SlO.ext; assumption; (repeat first | assumption | refine Ext.trans ?_ (by assumption))) | (apply Dn.ext; assumption; (repeat first | assumption | refine Ext.trans ?_ (by assumption))) | (apply It.ext; assumption; (repeat first | assumption | refine Ext.trans ?_ (by assumption))) | (repeat first | assumption | refine Ext.trans ?_ (by assumption))) rfl h10 (w0 := w) (by first | assumption | exact Ext.refl _ | (apply Blk.ext; assumption; (repeat first | assumption | refine Ext.trans ?_ (by assumption))) | (apply CanO.ext; assumption; (repeat first | assumption | refine Ext.trans ?_ (by assumption))) | (apply Den.ext; assumption; (repeat first | assumption | refine Ext.trans ?_ (by assumption))) | (apply Sl.ext; assumption; (repeat first | assumption | refine Ext.trans ?_ (by assumption))) | (apply SlO.ext; assumption; (repeat first | assumption | refine Ext.trans ?_ (by assumption))) | (apply Dn.ext; assumption; (repeat first | assumption | refine Ext.trans ?_ (by assumption))) | (apply It.ext; assumption; (repeat first | assumption | refine Ext.trans ?_ (by assumption))) | (repeat first | assumption | refine Ext.trans ?_ (by assumption))) hx1.size ?_
  intro w' hxf hcf fin
  (repeat with_reducible first|refine .nil ?_|refine .then_normal ?_|refine .block_normal ?_|refine .seq ?_|refine .block ?_|refine .skip ?_|refine .region ?_|refine .ret ?_|refine .then_ret ?_|refine .block_ret ?_|refine .exit ?_|refine .then_exit ?_|refine .block_exit ?_|refine .block_other rfl ?_)
  exact fin _ _ rfl ⟨hxf, hcf⟩

/-- What Sqrt hands back. -/
def SqrtV (w : World) (r : Value) (a : Int) : Prop :=
  (a < 0 → r = .tuple #[IntV false (.slice none 0 0), .bool false]) ∧ (0 ≤ a → ∃ v x, r = .tuple #[v, .bool true] ∧ IsRoot a.natAbs x ∧ Can w v (x : Int))

set_option maxRecDepth 8000 in
set_option maxHeartbeats 400000 in
theorem isqrt_spec (w : World) (x : Value) (na : Bool) (xs : List Nat) (h : Den w x na xs) (hlen : xs.length ≤ 1000000) :
    Calls Try.prog 41 #[x] w (Ret fun r w' => Ext w w' ∧ SqrtV w' r (sg na (val xs))) := by
  have hD := h
  obtain ⟨p, cap, rfl, hs⟩ := h
  refine calls_of_St (args := [_]) Try.func41 rfl Try.ntmps41 rfl ?_
  (repeat with_reducible first|refine .nil ?_|refine .then_normal ?_|refine .block_normal ?_|refine .seq ?_|refine .block ?_|refine .skip ?_|refine .region ?_|refine .ret ?_|refine .then_ret ?_|refine .block_ret ?_|refine .exit ?_|refine .then_exit ?_|refine .block_exit ?_|refine .block_other rfl ?_)
  refine StL.step rfl rfl rfl (OpR.box rfl) ?_
  rintro _ w1 ⟨rfl, hb1, hx1, _⟩
  refine StL.step rfl rfl rfl (OpR.alloc TBok rfl) ?_
  rintro _ w2 ⟨rfl, hb2, hx2, _⟩
  have hx02 := hx1.trans hx2
  have hba := hb1.ext hx2
  have hl1 := limbs_length_le xs hs.2
  (iterate 6 ((repeat with_reducible first|refine .nil ?_|refine .then_normal ?_|refine .block_normal ?_|refine .seq ?_|refine .block ?_|refine .skip ?_|refine .region ?_|refine .ret ?_|refine .then_ret ?_|refine .block_ret ?_|refine .exit ?_|refine .then_exit ?_|refine .block_exit ?_|refine .block_other rfl ?_); try refine .run TBok 99 rfl ?_))
  refine StL.step rfl rfl rfl (RunsTo.loadInt rfl hba rfl rfl).op ?_
  rintro _ _ ⟨rfl, rfl⟩
  refine StL.step rfl rfl rfl (OpR.call fn_integer_Sign rfl (sign_spec w2 _ na xs (hD.ext hx02) (by omega))) ?_
  rintro _ w3 ⟨hx3, rfl⟩
  have hx03 := hx02.trans hx3
  have hb3 := hb2.ext hx3
  have hba3 := hba.ext hx3
  have hs3 := hs.ext hx03
  (iterate 6 ((repeat with_reducible first|refine .nil ?_|refine .then_normal ?_|refine .block_normal ?_|refine .seq ?_|refine .block ?_|refine .skip ?_|refine .region ?_|refine .ret ?_|refine .then_ret ?_|refine .block_ret ?_|refine .exit ?_|refine .then_exit ?_|refine .block_exit ?_|refine .block_other rfl ?_); try refine .run TBok 99 rfl ?_))
  by_cases hneg : sg na (val xs) < 0
  · refine St.condT rfl (by simp [signI, hneg]) ?_
    (iterate 6 ((repeat with_reducible first|refine .nil ?_|refine .then_normal ?_|refine .block_normal ?_|refine .seq ?_|refine .block ?_|refine .skip ?_|refine .region ?_|refine .ret ?_|refine .then_ret ?_|refine .block_ret ?_|refine .exit ?_|refine .then_exit ?_|refine .block_exit ?_|refine .block_other rfl ?_); try refine .run TBok 99 rfl ?_))
    refine StL.step rfl rfl rfl (RunsTo.build TBok rfl rfl rfl rfl).op ?_
    rintro _ _ ⟨rfl, rfl⟩
    refine StL.step0 rfl rfl (OpR.store TBok (vs := [.bool false, .slice none 0 0]) rfl rfl rfl rfl rfl hb3 (Nat.le_refl _) (by simp [Value.oneCell'])) ?_
    rintro _ w4 ⟨hb4, hu4⟩
    (iterate 6 ((repeat with_reducible first|refine .nil ?_|refine .then_normal ?_|refine .block_normal ?_|refine .seq ?_|refine .block ?_|refine .skip ?_|refine .region ?_|refine .ret ?_|refine .then_ret ?_|refine .block_ret ?_|refine .exit ?_|refine .then_exit ?_|refine .block_exit ?_|refine .block_other rfl ?_); try refine .run TBok 99 rfl ?_))
    exact Out.rets TBok [IntV false (.slice none 0 0), .bool false] rfl ⟨⟨_, _, _, _, rfl, hb4, rfl, rfl, rfl, rfl⟩, rfl, trivial⟩ ⟨hx03.then_upd hu4 hx1.size, fun _ => rfl, fun h0 => by omega⟩
  · refine St.condF rfl (by simp only [signI, if_neg hneg]; split <;> decide) ?_
    (iterate 6 ((repeat with_reducible first|refine .nil ?_|refine .then_normal ?_|refine .block_normal ?_|refine .seq ?_|refine .block ?_|refine .skip ?_|refine .region ?_|refine .ret ?_|refine .then_ret ?_|refine .block_ret ?_|refine .exit ?_|refine .then_exit ?_|refine .block_exit ?_|refine .block_other rfl ?_); try refine .run TBok 99 rfl ?_))
    refine StL.step rfl rfl rfl (RunsTo.load TBok rfl rfl rfl (hba3.cell rfl)).op ?_
    rintro _ _ ⟨rfl, rfl⟩
    refine StL.step rfl rfl rfl (OpR.call fn_integer_trim rfl (trim_spec w3 _ _ hs3 (by omega))) ?_
    rintro _ w4 ⟨rfl, rfl, ht⟩
    refine StL.step rfl rfl rfl (OpR.call fn_integer_sqrtNat rfl (sqrtNat_spec _ _ _ ht (by omega))) ?_
    rintro sl w5 ⟨hx5, y, hy, hsl⟩
    have hyl : (limbs y).length ≤ 1000000 := by
      refine Nat.le_trans (limbs_length_mono y (val xs) ?_) (by omega)
      have := hy.1
      rcases Nat.eq_zero_or_pos y with h0 | h0
      · omega
      · exact Nat.le_trans (Nat.le_mul_of_pos_left y h0) this
    refine StL.step rfl rfl rfl (OpR.call fn_integer_build rfl (build_spec' w5 false sl y hsl (by omega))) ?_
    rintro v w6 ⟨hx6, hv⟩
    have hb6 := (hb3.ext hx5).ext hx6
    refine StL.retCan rfl rfl hb6 rfl hv ((hx03.trans hx5).trans hx6) hx1.size ?_
    intro w7 cs hcs hl hb7 hu7 hx7
    (iterate 6 ((repeat with_reducible first|refine .nil ?_|refine .then_normal ?_|refine .block_normal ?_|refine .seq ?_|refine .block ?_|refine .skip ?_|refine .region ?_|refine .ret ?_|refine .then_ret ?_|refine .block_ret ?_|refine .exit ?_|refine .then_exit ?_|refine .block_exit ?_|refine .block_other rfl ?_); try refine .run TBok 99 rfl ?_))
    refine Out.rets TBok [v, .bool true] rfl ⟨⟨_, _, _, _, rfl, hb7, rfl, rfl, hl, hcs⟩, rfl, trivial⟩ ⟨hx7, fun h0 => absurd h0 hneg, fun _ => ⟨v, y, rfl, ?_, Can.upd hv hu7 ⟨_, hb6⟩⟩⟩
    rw [sg_abs]; exact hy

end Go.Qf

/- integer.Cmp. -/
namespace Go.Qf
open Go Go.RowKit Go.Proofs

/-- The order of two integers. -/
def cmpI (a b : Int) : Int := if a < b then -1 else if b < a then 1 else 0

theorem cmpI_sign (na nb : Bool) (m k : Nat) (h : signI (sg na m) = signI (sg nb k)) : signI (sg na m) * cmpN m k = cmpI (sg na m) (sg nb k) := by
  rw [signI_sg, signI_sg] at h
  rw [signI_sg]
  unfold cmpN cmpI sg
  by_cases hm : m = 0 <;> by_cases hk : k = 0 <;> cases na <;> cases nb <;> simp [hm, hk] at h ⊢ <;> (repeat' split) <;> omega

theorem cmpI_lt (a b : Int) (h : signI a < signI b) : cmpI a b = -1 := by
  unfold signI at h
  unfold cmpI
  rw [if_pos]
  revert h
  split <;> split <;> (try split) <;> intro h <;> omega

theorem cmpI_gt (a b : Int) (h : signI b < signI a) : cmpI a b = 1 := by
  unfold signI at h
  unfold cmpI
  have : b < a := by
    revert h
    split <;> split <;> (try split) <;> intro h <;> omega
  rw [if_neg (by omega), if_pos this]

theorem signI_bound (a : Int) : -1 ≤ signI a ∧ signI a ≤ 1 := by
  unfold signI
  split
  · omega
  · split <;> omega

theorem cmpN_bound (m k : Nat) : -1 ≤ cmpN m k ∧ cmpN m k ≤ 1 := by
  unfold cmpN
  split
  · omega
  · split <;> omega

theorem mul_small {a b : Int} (ha : -1 ≤ a ∧ a ≤ 1) (hb : -1 ≤ b ∧ b ≤ 1) : -1 ≤ a * b ∧ a * b ≤ 1 := by
  have : a = -1 ∨ a = 0 ∨ a = 1 := by omega
  rcases this with rfl | rfl | rfl <;> omega

set_option maxRecDepth 8000 in
set_option maxHeartbeats 400000 in
theorem icmp_spec (w : World) (x y : Value) (na nb : Bool) (xs ys : List Nat) (h : Den w x na xs) (k : Den w y nb ys) (hlen : xs.length ≤ 10000000) (hl : ys.length ≤ 10000000) :
    Calls Try.prog 48 #[x, y] w (Ret fun r w' => Ext w w' ∧ r = .int .i64 (cmpI (sg na (val xs)) (sg nb (val ys)))) := by
  have hD := h
  have kD := k
  obtain ⟨p, cap, rfl, hs⟩ := h
  obtain ⟨q, cb, rfl, ks⟩ := k
  refine calls_of_St (args := [_, _]) Try.func48 rfl Try.ntmps48 rfl ?_
  (repeat with_reducible first|refine .nil ?_|refine .then_normal ?_|refine .block_normal ?_|refine .seq ?_|refine .block ?_|refine .skip ?_|refine .region ?_|refine .ret ?_|refine .then_ret ?_|refine .block_ret ?_|refine .exit ?_|refine .then_exit ?_|refine .block_exit ?_|refine .block_other rfl ?_)
  refine StL.step rfl rfl rfl (OpR.box rfl) ?_
  rintro _ w1 ⟨rfl, hb1, hx1, _⟩
  refine StL.step rfl rfl rfl (OpR.box rfl) ?_
  rintro _ w2 ⟨rfl, hb2, hx2, _⟩
  have hx02 := hx1.trans hx2
  have hba := hb1.ext hx2
  have hl1 := limbs_length_le xs hs.2
  have hl2 := limbs_length_le ys ks.2
  have hsa := signI_bound (sg na (val xs))
  have hsb := signI_bound (sg nb (val ys))
  refine .run TBok 99 rfl ?_
  (repeat with_reducible first|refine .nil ?_|refine .then_normal ?_|refine .block_normal ?_|refine .seq ?_|refine .block ?_|refine .skip ?_|refine .region ?_|refine .ret ?_|refine .then_ret ?_|refine .block_ret ?_|refine .exit ?_|refine .then_exit ?_|refine .block_exit ?_|refine .block_other rfl ?_)
  refine St.draw 4 [(7, Is (IntV na (.slice p xs.length cap))), (8, Is (.int .i64 (signI (sg na (val xs))))), (9, Is (IntV nb (.slice q ys.length cb))), (10, Is (.int .i64 (signI (sg nb (val ys)))))] TBfol (by kernel_rfl) rfl (by kernel_rfl) (by kernel_rfl)
    ⟨Is.mono _, Is.mono _, Is.mono _, Is.mono _, trivial⟩ ?_ ?_
  · refine ⟨?_, ?_, ?_, ?_, trivial⟩
    · exact fun w4 hx4 => OpG.run rfl rfl rfl rfl (RunsTo.loadInt rfl (hba.ext hx4) rfl rfl) rfl
    · rintro w4 hx4 _ rfl
      refine OpG.call fn_integer_Sign rfl rfl rfl (sign_spec w4 _ na xs (hD.ext (hx02.trans hx4)) (by omega)) ?_
      rintro v w5 ⟨hx5, rfl⟩
      exact ⟨hx5, rfl⟩
    · exact fun w4 hx4 => OpG.run rfl rfl rfl rfl (RunsTo.loadInt rfl (hb2.ext hx4) rfl rfl) rfl
    · rintro w4 hx4 _ rfl
      refine OpG.call fn_integer_Sign rfl rfl rfl (sign_spec w4 _ nb ys (kD.ext (hx02.trans hx4)) (by omega)) ?_
      rintro v w5 ⟨hx5, rfl⟩
      exact ⟨hx5, rfl⟩
  rintro w4 hx4 _ rfl _ rfl _ rfl _ rfl _
  have hx04 := hx02.trans hx4
  have hba4 := hba.ext hx4
  have hbb4 := hb2.ext hx4
  have h4 := hs.ext hx04
  have k4 := ks.ext hx04
  (iterate 6 ((repeat with_reducible first|refine .nil ?_|refine .then_normal ?_|refine .block_normal ?_|refine .seq ?_|refine .block ?_|refine .skip ?_|refine .region ?_|refine .ret ?_|refine .then_ret ?_|refine .block_ret ?_|refine .exit ?_|refine .then_exit ?_|refine .block_exit ?_|refine .block_other rfl ?_); try refine .run TBok 99 rfl ?_))
  by_cases hlt : signI (sg na (val xs)) < signI (sg nb (val ys))
  · refine St.condT rfl (by simpa using hlt) ?_
    (iterate 6 ((repeat with_reducible first|refine .nil ?_|refine .then_normal ?_|refine .block_normal ?_|refine .seq ?_|refine .block ?_|refine .skip ?_|refine .region ?_|refine .ret ?_|refine .then_ret ?_|refine .block_ret ?_|refine .exit ?_|refine .then_exit ?_|refine .block_exit ?_|refine .block_other rfl ?_); try refine .run TBok 99 rfl ?_))
    exact Out.ret1 rfl rfl ⟨hx04, by rw [cmpI_lt _ _ hlt]⟩
  refine St.condF rfl (by simp; omega) ?_
  (iterate 6 ((repeat with_reducible first|refine .nil ?_|refine .then_normal ?_|refine .block_normal ?_|refine .seq ?_|refine .block ?_|refine .skip ?_|refine .region ?_|refine .ret ?_|refine .then_ret ?_|refine .block_ret ?_|refine .exit ?_|refine .then_exit ?_|refine .block_exit ?_|refine .block_other rfl ?_); try refine .run TBok 99 rfl ?_))
  by_cases hgt : signI (sg nb (val ys)) < signI (sg na (val xs))
  · refine St.condT rfl (by simpa using hgt) ?_
    (iterate 6 ((repeat with_reducible first|refine .nil ?_|refine .then_normal ?_|refine .block_normal ?_|refine .seq ?_|refine .block ?_|refine .skip ?_|refine .region ?_|refine .ret ?_|refine .then_ret ?_|refine .block_ret ?_|refine .exit ?_|refine .then_exit ?_|refine .block_exit ?_|refine .block_other rfl ?_); try refine .run TBok 99 rfl ?_))
    exact Out.ret1 rfl rfl ⟨hx04, by rw [cmpI_gt _ _ hgt]⟩
  refine St.condF rfl (by simp; omega) ?_
  have heq : signI (sg na (val xs)) = signI (sg nb (val ys)) := by omega
  have hfin := cmpI_sign na nb (val xs) (val ys) heq
  have hcb := cmpN_bound (val xs) (val ys)
  have hms := mul_small hsa hcb
  rw [← hfin]
  generalize signI (sg na (val xs)) = sv at *
  generalize hcn : cmpN (val xs) (val ys) = cv at *
  (repeat with_reducible first|refine .nil ?_|refine .then_normal ?_|refine .block_normal ?_|refine .seq ?_|refine .block ?_|refine .skip ?_|refine .region ?_|refine .ret ?_|refine .then_ret ?_|refine .block_ret ?_|refine .exit ?_|refine .then_exit ?_|refine .block_exit ?_|refine .block_other rfl ?_)
  refine St.sub (E' := [(2, .pointer (some ⟨w.heap.size, 0, none⟩)), (3, .pointer (some ⟨w1.heap.size, 0, none⟩)), (5, .int .i64 sv)]) ?_ ⟨rfl, rfl, rfl, trivial⟩
  refine St.draw 9 [(19, Is (.int .i64 sv)), (20, Is (.pointer (some ⟨w.heap.size, 1, none⟩))), (21, Is (.slice p xs.length cap)), (22, Is (.slice p (limbs (val xs)).length cap)), (23, Is (.pointer (some ⟨w1.heap.size, 1, none⟩))), (24, Is (.slice q ys.length cb)), (25, Is (.slice q (limbs (val ys)).length cb)), (26, Is (.int .i64 cv)), (27, Is (.int .i64 (sv * cv)))] TBfol (by kernel_rfl) rfl (by kernel_rfl) (by kernel_rfl)
    ⟨Is.mono _, Is.mono _, Is.mono _, Is.mono _, Is.mono _, Is.mono _, Is.mono _, Is.mono _, Is.mono _, trivial⟩ ?_ ?_
  · refine ⟨?_, ?_, ?_, ?_, ?_, ?_, ?_, ?_, ?_, trivial⟩
    · exact fun w5 hx5 => OpG.pure TBok rfl rfl rfl rfl rfl rfl
    · exact fun w5 hx5 => OpG.pure TBok rfl rfl rfl rfl rfl rfl
    · rintro w5 hx5 _ rfl
      exact OpG.run rfl rfl rfl rfl (RunsTo.load TBok rfl rfl rfl ((hba4.ext hx5).cell rfl)) rfl
    · rintro w5 hx5 _ rfl
      refine OpG.call fn_integer_trim rfl rfl rfl (trim_spec w5 _ _ (h4.ext hx5) (by omega)) ?_
      rintro v w6 ⟨rfl, rfl, _⟩
      exact ⟨Ext.refl _, rfl⟩
    · exact fun w5 hx5 => OpG.pure TBok rfl rfl rfl rfl rfl rfl
    · rintro w5 hx5 _ rfl
      exact OpG.run rfl rfl rfl rfl (RunsTo.load TBok rfl rfl rfl ((hbb4.ext hx5).cell rfl)) rfl
    · rintro w5 hx5 _ rfl
      refine OpG.call fn_integer_trim rfl rfl rfl (trim_spec w5 _ _ (k4.ext hx5) (by omega)) ?_
      rintro v w6 ⟨rfl, rfl, _⟩
      exact ⟨Ext.refl _, rfl⟩
    · rintro w5 hx5 _ rfl _ rfl
      refine OpG.call fn_integer_compareNat rfl rfl rfl (compareNat_spec w5 _ _ _ _ (clone_trim (h4.ext hx5)) (clone_trim (k4.ext hx5)) (by omega) (by omega)) ?_
      rintro v w6 ⟨hx6, rfl⟩
      exact ⟨hx6, by rw [hcn]; rfl⟩
    · rintro w5 hx5 _ rfl _ rfl
      exact OpG.pure TBok rfl rfl rfl rfl rfl (by rw [i64_id (by omega) (by omega)]; rfl)
  rintro w5 hx5 v19 _ v20 _ v21 _ v22 _ v23 _ v24 _ v25 _ v26 _ _ rfl _
  (iterate 6 ((repeat with_reducible first|refine .nil ?_|refine .then_normal ?_|refine .block_normal ?_|refine .seq ?_|refine .block ?_|refine .skip ?_|refine .region ?_|refine .ret ?_|refine .then_ret ?_|refine .block_ret ?_|refine .exit ?_|refine .then_exit ?_|refine .block_exit ?_|refine .block_other rfl ?_); try refine .run TBok 99 rfl ?_))
  exact Out.ret1 rfl rfl ⟨hx04.trans hx5, rfl⟩

/-- Quotient and remainder out of what they must be. -/
theorem ediv_of {a b q r : Int} (h : a = b * q + r) (h0 : 0 ≤ r) (h1 : r < b.natAbs) (_hb : b ≠ 0) : a / b = q ∧ a % b = r := by
  rcases Int.lt_or_gt_of_ne _hb with hneg | hpos
  · obtain ⟨c, rfl⟩ : ∃ c, b = -c := ⟨-b, by omega⟩
    have hc : 0 < c := by omega
    have hcn : ((-c).natAbs : Int) = c := by omega
    have key := (Int.ediv_emod_unique (a := a) (b := c) (r := r) (q := -q) hc).2 ⟨by rw [h, Int.neg_mul, Int.mul_neg]; omega, h0, by omega⟩
    constructor
    · rw [Int.ediv_neg, key.1]; omega
    · rw [Int.emod_neg]; exact key.2
  · have hcn : (b.natAbs : Int) = b := by omega
    exact (Int.ediv_emod_unique (a := a) (b := b) (r := r) (q := q) hpos).2 ⟨by omega, h0, by omega⟩

end Go.Qf

/- integer.DivMod. -/
namespace Go.Qf
open Go Go.RowKit Go.Proofs

/-- What DivMod hands back. -/
def DivV (base : Nat) (w : World) (r : Value) (a b : Int) : Prop :=
  (b = 0 → r = .tuple #[IntV false (.slice none 0 0), IntV false (.slice none 0 0), .bool false]) ∧ (b ≠ 0 → ∃ q m, r = .tuple #[q, m, .bool true] ∧ CanO base w q (a / b) ∧ CanO base w m (a % b))

/-- The quotient as the program finds it. -/
theorem div_law (na nb : Bool) (m k : Nat) (hk : k ≠ 0) :
    ((na = true ∧ m % k ≠ 0) → sg na m / sg nb k = sg (!nb) (m / k + 1) ∧ sg na m % sg nb k = ((k - m % k : Nat) : Int)) ∧
    ((na = true ∧ m % k = 0) → sg na m / sg nb k = sg (!nb) (m / k) ∧ sg na m % sg nb k = ((m % k : Nat) : Int)) ∧
    (na = false → sg na m / sg nb k = sg nb (m / k) ∧ sg na m % sg nb k = ((m % k : Nat) : Int)) := by
  have hm := Nat.div_add_mod m k
  have hlt := Nat.mod_lt m (Nat.pos_of_ne_zero hk)
  have hb : sg nb k ≠ 0 := by cases nb <;> simp [sg] <;> omega
  have hab : (sg nb k).natAbs = k := sg_abs nb k
  have hmI : (k : Int) * ((m / k : Nat) : Int) + ((m % k : Nat) : Int) = m := by exact_mod_cast hm
  generalize m / k = q at *
  generalize m % k = r at *
  refine ⟨?_, ?_, ?_⟩
  · rintro ⟨rfl, hr⟩
    refine ediv_of ?_ (by omega) (by rw [hab]; omega) hb
    rw [Int.ofNat_sub (by omega)]
    cases nb <;> simp only [sg, Bool.not_true, Bool.not_false, if_true, if_false, Bool.false_eq_true, Int.mul_neg, Int.neg_mul, Int.neg_neg, Int.natCast_add, Int.mul_add] <;> omega
  · rintro ⟨rfl, hr⟩
    refine ediv_of ?_ (by omega) (by rw [hab]; omega) hb
    subst hr
    cases nb <;> simp only [sg, Bool.not_true, Bool.not_false, if_true, if_false, Bool.false_eq_true, Int.mul_neg, Int.neg_mul, Int.neg_neg] <;> omega
  · rintro rfl
    refine ediv_of ?_ (by omega) (by rw [hab]; omega) hb
    cases nb <;> simp only [sg, Bool.not_true, Bool.not_false, if_true, if_false, Bool.false_eq_true, Int.mul_neg, Int.neg_mul, Int.neg_neg] <;> omega

theorem one_sl {base b : Nat} {w : World} (hb : Blk 41 w b [.int .u32 1]) (hg : base ≤ b) : SlO base w (.slice (some ⟨b, 0, none⟩) 1 1) [1] :=
  SlO.closed (D := []) hb (by intro x hx; simp at hx; omega) rfl hg rfl (by decide)

set_option maxRecDepth 8000 in
set_option maxHeartbeats 800000 in
theorem divMod_spec (w : World) (x y : Value) (na nb : Bool) (xs ys : List Nat) (h : Den w x na xs) (k : Den w y nb ys) (hlen : xs.length ≤ 9000000) (hl : ys.length ≤ 9000000) :
    Calls Try.prog 32 #[x, y] w (Ret fun r w' => Ext w w' ∧ DivV w.heap.size w' r (sg na (val xs)) (sg nb (val ys))) := by
  obtain ⟨p, cap, rfl, hs⟩ := h
  obtain ⟨q, cb, rfl, ks⟩ := k
  refine calls_of_St (args := [_, _]) Try.func32 rfl Try.ntmps32 rfl ?_
  (repeat with_reducible first|refine .nil ?_|refine .then_normal ?_|refine .block_normal ?_|refine .seq ?_|refine .block ?_|refine .skip ?_|refine .region ?_|refine .ret ?_|refine .then_ret ?_|refine .block_ret ?_|refine .exit ?_|refine .then_exit ?_|refine .block_exit ?_|refine .block_other rfl ?_)
  refine StL.step rfl rfl rfl (OpR.box rfl) ?_
  rintro _ w1 ⟨rfl, hb1, hx1, hz1⟩
  refine StL.step rfl rfl rfl (OpR.box rfl) ?_
  rintro _ w2 ⟨rfl, hb2, hx2, hz2⟩
  refine StL.step rfl rfl rfl (OpR.alloc TBok rfl) ?_
  rintro _ w3 ⟨rfl, hb3, hx3, hz3⟩
  refine StL.step rfl rfl rfl (OpR.alloc TBok rfl) ?_
  rintro _ w4 ⟨rfl, hb4, hx4, hz4⟩
  have hx04 := ((hx1.trans hx2).trans hx3).trans hx4
  have h4 := hs.ext hx04
  have k4 := ks.ext hx04
  have hba := ((hb1.ext hx2).ext hx3).ext hx4
  have hbb := (hb2.ext hx3).ext hx4
  have hbq := hb3.ext hx4
  have hl1 := limbs_length_le xs hs.2
  have hl2 := limbs_length_le ys ks.2
  (iterate 6 ((repeat with_reducible first|refine .nil ?_|refine .then_normal ?_|refine .block_normal ?_|refine .seq ?_|refine .block ?_|refine .skip ?_|refine .region ?_|refine .ret ?_|refine .then_ret ?_|refine .block_ret ?_|refine .exit ?_|refine .then_exit ?_|refine .block_exit ?_|refine .block_other rfl ?_); try refine .run TBok 99 rfl ?_))
  refine StL.step rfl rfl rfl (RunsTo.load TBok rfl rfl rfl (hbb.cell rfl)).op ?_
  rintro _ _ ⟨rfl, rfl⟩
  refine StL.step rfl rfl rfl (OpR.call fn_integer_trim rfl (trim_spec w4 _ _ k4 (by omega))) ?_
  rintro _ w4 ⟨rfl, rfl, kt⟩
  (iterate 6 ((repeat with_reducible first|refine .nil ?_|refine .then_normal ?_|refine .block_normal ?_|refine .seq ?_|refine .block ?_|refine .skip ?_|refine .region ?_|refine .ret ?_|refine .then_ret ?_|refine .block_ret ?_|refine .exit ?_|refine .then_exit ?_|refine .block_exit ?_|refine .block_other rfl ?_); try refine .run TBok 99 rfl ?_))
  by_cases hk0 : val ys = 0
  · refine St.condT rfl (by rw [hk0]; rfl) ?_
    (iterate 6 ((repeat with_reducible first|refine .nil ?_|refine .then_normal ?_|refine .block_normal ?_|refine .seq ?_|refine .block ?_|refine .skip ?_|refine .region ?_|refine .ret ?_|refine .then_ret ?_|refine .block_ret ?_|refine .exit ?_|refine .then_exit ?_|refine .block_exit ?_|refine .block_other rfl ?_); try refine .run TBok 99 rfl ?_))
    refine StL.step rfl rfl rfl (RunsTo.build TBok rfl rfl rfl rfl).op ?_
    rintro _ _ ⟨rfl, rfl⟩
    refine StL.step rfl rfl rfl (RunsTo.build TBok rfl rfl rfl rfl).op ?_
    rintro _ _ ⟨rfl, rfl⟩
    refine StL.step0 rfl rfl (OpR.store TBok (vs := [.bool false, .slice none 0 0]) rfl rfl rfl rfl rfl hbq (Nat.le_refl _) (by simp [Value.oneCell'])) ?_
    rintro _ w5 ⟨hb5, hu5⟩
    refine StL.step0 rfl rfl (OpR.store TBok (vs := [.bool false, .slice none 0 0]) rfl rfl rfl rfl rfl (hb4.upd hu5 (by omega)) (Nat.le_refl _) (by simp [Value.oneCell'])) ?_
    rintro _ w6 ⟨hb6, hu6⟩
    have hb56 := hb5.upd hu6 (by omega)
    (iterate 6 ((repeat with_reducible first|refine .nil ?_|refine .then_normal ?_|refine .block_normal ?_|refine .seq ?_|refine .block ?_|refine .skip ?_|refine .region ?_|refine .ret ?_|refine .then_ret ?_|refine .block_ret ?_|refine .exit ?_|refine .then_exit ?_|refine .block_exit ?_|refine .block_other rfl ?_); try refine .run TBok 99 rfl ?_))
    exact Out.rets TBok [IntV false (.slice none 0 0), IntV false (.slice none 0 0), .bool false] rfl ⟨⟨_, _, _, _, rfl, hb56, rfl, rfl, rfl, rfl⟩, ⟨_, _, _, _, rfl, hb6, rfl, rfl, rfl, rfl⟩, rfl, trivial⟩
      ⟨(hx04.then_upd hu5 (by omega)).then_upd hu6 (by omega), fun _ => rfl, fun h0 => absurd (by rw [hk0]; cases nb <;> rfl) h0⟩
  have hkb : sg nb (val ys) ≠ 0 := by cases nb <;> simp [sg] <;> omega
  refine St.condF rfl (by simp [limbs_eq_nil, hk0]) ?_
  (iterate 6 ((repeat with_reducible first|refine .nil ?_|refine .then_normal ?_|refine .block_normal ?_|refine .seq ?_|refine .block ?_|refine .skip ?_|refine .region ?_|refine .ret ?_|refine .then_ret ?_|refine .block_ret ?_|refine .exit ?_|refine .then_exit ?_|refine .block_exit ?_|refine .block_other rfl ?_); try refine .run TBok 99 rfl ?_))
  refine StL.step rfl rfl rfl (RunsTo.load TBok rfl rfl rfl (hba.cell rfl)).op ?_
  rintro _ _ ⟨rfl, rfl⟩
  refine StL.step rfl rfl rfl (OpR.call fn_integer_trim rfl (trim_spec w4 _ _ h4 (by omega))) ?_
  rintro _ w4 ⟨rfl, rfl, ht⟩
  refine .run TBok 99 rfl ?_
  refine StL.step rfl rfl rfl (OpR.call fn_integer_divNat rfl (divNat_spec w4 _ _ (val xs) (val ys) ht kt (by omega) (by omega) hk0)) ?_
  rintro _ w5 ⟨hx5, qv, rv, rfl, hq5, hr5⟩
  have hx05 := hx04.trans hx5
  have hba5 := hba.ext hx5
  have hbb5 := hbb.ext hx5
  (iterate 6 ((repeat with_reducible first|refine .nil ?_|refine .then_normal ?_|refine .block_normal ?_|refine .seq ?_|refine .block ?_|refine .skip ?_|refine .region ?_|refine .ret ?_|refine .then_ret ?_|refine .block_ret ?_|refine .exit ?_|refine .then_exit ?_|refine .block_exit ?_|refine .block_other rfl ?_); try refine .run TBok 99 rfl ?_))
  refine StL.step rfl rfl rfl (RunsTo.load TBok rfl rfl rfl (hbb5.cell rfl)).op ?_
  rintro _ _ ⟨rfl, rfl⟩
  refine .run TBok 99 rfl ?_
  have hlaw := div_law na nb (val xs) (val ys) hk0
  have hql : (limbs (val xs / val ys)).length ≤ 9000000 := Nat.le_trans (limbs_length_mono _ _ (Nat.div_le_self _ _)) (by omega)
  have hrl : (limbs (val xs % val ys)).length ≤ 9000000 := Nat.le_trans (limbs_length_mono _ _ (Nat.mod_le _ _)) (by omega)
  have hrlt := Nat.mod_lt (val xs) (Nat.pos_of_ne_zero hk0)
  refine StL.nil (Out.then_normal (St.cut (fun g : (Value × Value) × Bool × Nat × Nat => [(4, .pointer (some ⟨w2.heap.size, 0, none⟩)), (5, .pointer (some ⟨w3.heap.size, 0, none⟩)), (8, g.1.1), (9, g.1.2), (10, .bool g.2.1)])
    (fun g w' => Ext w4 w' ∧ SlO w.heap.size w' g.1.1 (limbs g.2.2.1) ∧ SlO w.heap.size w' g.1.2 (limbs g.2.2.2) ∧ (limbs g.2.2.1).length ≤ 10000000 ∧ (limbs g.2.2.2).length ≤ 10000000 ∧ sg na (val xs) / sg nb (val ys) = sg g.2.1 g.2.2.1 ∧ sg na (val xs) % sg nb (val ys) = (g.2.2.2 : Int)) ?_ ?_))
  · have hq5' := hq5.mono hx04.size
    have hr5' := hr5.mono hx04.size
    (repeat with_reducible first|refine .nil ?_|refine .then_normal ?_|refine .block_normal ?_|refine .seq ?_|refine .block ?_|refine .skip ?_|refine .region ?_|refine .ret ?_|refine .then_ret ?_|refine .block_ret ?_|refine .exit ?_|refine .then_exit ?_|refine .block_exit ?_|refine .block_other rfl ?_)
    refine .run TBok 99 rfl ?_
    refine StL.step rfl rfl rfl (RunsTo.load TBok rfl rfl rfl (hba5.cell rfl)).op ?_
    rintro _ _ ⟨rfl, rfl⟩
    obtain ⟨rp, rc, rfl, _⟩ := hr5.sl.form
    cases na with
    | true =>
      by_cases hr0 : val xs % val ys = 0
      · refine StL.as TBok 5 (.bool false) rfl (bool_false (by rw [hr0]; decide)) ?_
        (iterate 6 ((repeat with_reducible first|refine .nil ?_|refine .then_normal ?_|refine .block_normal ?_|refine .seq ?_|refine .block ?_|refine .skip ?_|refine .region ?_|refine .ret ?_|refine .then_ret ?_|refine .block_ret ?_|refine .exit ?_|refine .then_exit ?_|refine .block_exit ?_|refine .block_other rfl ?_); try refine .run TBok 99 rfl ?_))
        refine St.condF rfl rfl ?_
        (iterate 6 ((repeat with_reducible first|refine .nil ?_|refine .then_normal ?_|refine .block_normal ?_|refine .seq ?_|refine .block ?_|refine .skip ?_|refine .region ?_|refine .ret ?_|refine .then_ret ?_|refine .block_ret ?_|refine .exit ?_|refine .then_exit ?_|refine .block_exit ?_|refine .block_other rfl ?_); try refine .run TBok 99 rfl ?_))
        refine StL.step rfl rfl rfl (RunsTo.load TBok rfl rfl rfl (hba5.cell rfl)).op ?_
        rintro _ _ ⟨rfl, rfl⟩
        (iterate 6 ((repeat with_reducible first|refine .nil ?_|refine .then_normal ?_|refine .block_normal ?_|refine .seq ?_|refine .block ?_|refine .skip ?_|refine .region ?_|refine .ret ?_|refine .then_ret ?_|refine .block_ret ?_|refine .exit ?_|refine .then_exit ?_|refine .block_exit ?_|refine .block_other rfl ?_); try refine .run TBok 99 rfl ?_))
        refine St.condT rfl rfl ?_
        (iterate 6 ((repeat with_reducible first|refine .nil ?_|refine .then_normal ?_|refine .block_normal ?_|refine .seq ?_|refine .block ?_|refine .skip ?_|refine .region ?_|refine .ret ?_|refine .then_ret ?_|refine .block_ret ?_|refine .exit ?_|refine .then_exit ?_|refine .block_exit ?_|refine .block_other rfl ?_); try refine .run TBok 99 rfl ?_))
        refine Out.met ((qv, .slice rp _ rc), !nb, val xs / val ys, val xs % val ys) ⟨rfl, rfl, rfl, rfl, rfl, trivial⟩ ⟨hx5, hq5', hr5', by dsimp only; omega, by dsimp only; omega, ?_, ?_⟩
        · exact (hlaw.2.1 ⟨rfl, hr0⟩).1
        · exact (hlaw.2.1 ⟨rfl, hr0⟩).2
      · have hpos : 0 < (limbs (val xs % val ys)).length := by
          rcases Nat.eq_zero_or_pos (limbs (val xs % val ys)).length with h0 | h0
          · exact absurd (limbs_eq_nil.1 (List.eq_nil_of_length_eq_zero h0)) hr0
          · exact h0
        refine StL.as TBok 5 (.bool true) rfl (bool_true (by omega)) ?_
        (iterate 6 ((repeat with_reducible first|refine .nil ?_|refine .then_normal ?_|refine .block_normal ?_|refine .seq ?_|refine .block ?_|refine .skip ?_|refine .region ?_|refine .ret ?_|refine .then_ret ?_|refine .block_ret ?_|refine .exit ?_|refine .then_exit ?_|refine .block_exit ?_|refine .block_other rfl ?_); try refine .run TBok 99 rfl ?_))
        refine St.condT rfl rfl ?_
        (iterate 6 ((repeat with_reducible first|refine .nil ?_|refine .then_normal ?_|refine .block_normal ?_|refine .seq ?_|refine .block ?_|refine .skip ?_|refine .region ?_|refine .ret ?_|refine .then_ret ?_|refine .block_ret ?_|refine .exit ?_|refine .then_exit ?_|refine .block_exit ?_|refine .block_other rfl ?_); try refine .run TBok 99 rfl ?_))
        refine StL.step rfl rfl rfl (OpR.single TBok rfl rfl rfl rfl) ?_
        rintro _ w6 ⟨rfl, hb6, hx6, hz6⟩
        have hone := one_sl hb6 (Nat.le_refl _)
        refine StL.step rfl rfl rfl (OpR.call fn_integer_addNat rfl (addNat_spec w6 _ _ _ _ (hq5.ext hx6).sl hone.sl (by omega) (by decide))) ?_
        rintro q6 w7 ⟨hx7, hq7⟩
        have e1 : val [1] = 1 := rfl
        rw [val_limbs, e1] at hq7
        (iterate 6 ((repeat with_reducible first|refine .nil ?_|refine .then_normal ?_|refine .block_normal ?_|refine .seq ?_|refine .block ?_|refine .skip ?_|refine .region ?_|refine .ret ?_|refine .then_ret ?_|refine .block_ret ?_|refine .exit ?_|refine .then_exit ?_|refine .block_exit ?_|refine .block_other rfl ?_); try refine .run TBok 99 rfl ?_))
        have hmn := limbs_length_mono _ _ (Nat.le_of_lt hrlt)
        have hx57 := hx6.trans hx7
        refine StL.step rfl rfl rfl (OpR.call fn_integer_subNat rfl (subNat_spec w7 _ _ _ _ (kt.ext (hx5.trans hx57)) (hr5.ext hx57).sl (by omega) (by omega) hmn (by rw [val_limbs, val_limbs]; omega))) ?_
        rintro r7 w8 ⟨hx8, hr8⟩
        rw [val_limbs, val_limbs] at hr8
        have hl8 := limbs_add_length (val xs / val ys) 1
        have hone1 : (limbs 1).length ≤ 2 := limbs_length_le_two (by decide)
        have hl9 := limbs_length_mono (val ys - val xs % val ys) (val ys) (Nat.sub_le _ _)
        have hx08 : Ext w w7 := hx05.trans hx57
        (iterate 6 ((repeat with_reducible first|refine .nil ?_|refine .then_normal ?_|refine .block_normal ?_|refine .seq ?_|refine .block ?_|refine .skip ?_|refine .region ?_|refine .ret ?_|refine .then_ret ?_|refine .block_ret ?_|refine .exit ?_|refine .then_exit ?_|refine .block_exit ?_|refine .block_other rfl ?_); try refine .run TBok 99 rfl ?_))
        refine Out.met ((q6, r7), !nb, val xs / val ys + 1, val ys - val xs % val ys) ⟨rfl, rfl, rfl, rfl, rfl, trivial⟩ ⟨hx5.trans (hx57.trans hx8), (hq7.ext hx8).mono (hx05.trans hx6).size, hr8.mono hx08.size, by dsimp only; omega, by dsimp only; omega, ?_, ?_⟩
        · exact (hlaw.1 ⟨rfl, hr0⟩).1
        · exact (hlaw.1 ⟨rfl, hr0⟩).2
    | false =>
      (iterate 6 ((repeat with_reducible first|refine .nil ?_|refine .then_normal ?_|refine .block_normal ?_|refine .seq ?_|refine .block ?_|refine .skip ?_|refine .region ?_|refine .ret ?_|refine .then_ret ?_|refine .block_ret ?_|refine .exit ?_|refine .then_exit ?_|refine .block_exit ?_|refine .block_other rfl ?_); try refine .run TBok 99 rfl ?_))
      refine St.condF rfl rfl ?_
      (iterate 6 ((repeat with_reducible first|refine .nil ?_|refine .then_normal ?_|refine .block_normal ?_|refine .seq ?_|refine .block ?_|refine .skip ?_|refine .region ?_|refine .ret ?_|refine .then_ret ?_|refine .block_ret ?_|refine .exit ?_|refine .then_exit ?_|refine .block_exit ?_|refine .block_other rfl ?_); try refine .run TBok 99 rfl ?_))
      refine StL.step rfl rfl rfl (RunsTo.load TBok rfl rfl rfl (hba5.cell rfl)).op ?_
      rintro _ _ ⟨rfl, rfl⟩
      (iterate 6 ((repeat with_reducible first|refine .nil ?_|refine .then_normal ?_|refine .block_normal ?_|refine .seq ?_|refine .block ?_|refine .skip ?_|refine .region ?_|refine .ret ?_|refine .then_ret ?_|refine .block_ret ?_|refine .exit ?_|refine .then_exit ?_|refine .block_exit ?_|refine .block_other rfl ?_); try refine .run TBok 99 rfl ?_))
      refine St.condF rfl rfl ?_
      (iterate 6 ((repeat with_reducible first|refine .nil ?_|refine .then_normal ?_|refine .block_normal ?_|refine .seq ?_|refine .block ?_|refine .skip ?_|refine .region ?_|refine .ret ?_|refine .then_ret ?_|refine .block_ret ?_|refine .exit ?_|refine .then_exit ?_|refine .block_exit ?_|refine .block_other rfl ?_); try refine .run TBok 99 rfl ?_))
      refine Out.met ((qv, .slice rp _ rc), nb, val xs / val ys, val xs % val ys) ⟨rfl, rfl, rfl, rfl, rfl, trivial⟩ ⟨hx5, hq5', hr5', by dsimp only; omega, by dsimp only; omega, ?_, ?_⟩
      · exact (hlaw.2.2 rfl).1
      · exact (hlaw.2.2 rfl).2
  rintro ⟨⟨qv6, rv6⟩, nq, mq, mr⟩ w6 ⟨hx6, hq6, hr6, hlq, hlr, eq1, eq2⟩
  dsimp only at hx6 hq6 hr6 hlq hlr eq1 eq2 ⊢
  (iterate 6 ((repeat with_reducible first|refine .nil ?_|refine .then_normal ?_|refine .block_normal ?_|refine .seq ?_|refine .block ?_|refine .skip ?_|refine .region ?_|refine .ret ?_|refine .then_ret ?_|refine .block_ret ?_|refine .exit ?_|refine .then_exit ?_|refine .block_exit ?_|refine .block_other rfl ?_); try refine .run TBok 99 rfl ?_))
  refine StL.step rfl rfl rfl (OpR.call fn_integer_build rfl (build_specO w6 nq qv6 mq hq6 (by omega))) ?_
  rintro v7 w7 ⟨hx7, hv7⟩
  rw [← eq1] at hv7
  refine .run TBok 99 rfl ?_
  refine StL.step rfl rfl rfl (OpR.call fn_integer_build rfl (build_specO w7 false rv6 mr (hr6.ext hx7) (by omega))) ?_
  rintro v8 w8 ⟨hx8, hv8⟩
  have e8 : sg false mr = (mr : Int) := rfl
  rw [e8, ← eq2] at hv8
  have hx48 := (hx6.trans hx7).trans hx8
  have hbq8 := hbq.ext hx48
  have hbr8 := hb4.ext hx48
  refine StL.retCan rfl rfl hbq8 rfl (hv7.ext hx8) (hx04.trans hx48) (by omega) ?_
  intro w9 cs hcs hlc hb9 hu9 hx9
  have hbr9 := hbr8.upd hu9 (by omega)
  have hv79 := CanO.upd (hv7.ext hx8) hu9 ⟨_, hbq8⟩
  have hv89 := CanO.upd hv8 hu9 ⟨_, hbq8⟩
  refine StL.retCan rfl rfl hbr9 rfl hv89 hx9 (by omega) ?_
  intro wA cs2 hcs2 hlc2 hbA huA hxA
  have hbqA := hb9.upd huA (by omega)
  (iterate 6 ((repeat with_reducible first|refine .nil ?_|refine .then_normal ?_|refine .block_normal ?_|refine .seq ?_|refine .block ?_|refine .skip ?_|refine .region ?_|refine .ret ?_|refine .then_ret ?_|refine .block_ret ?_|refine .exit ?_|refine .then_exit ?_|refine .block_exit ?_|refine .block_other rfl ?_); try refine .run TBok 99 rfl ?_))
  exact Out.rets TBok [v7, v8, .bool true] rfl ⟨⟨_, _, _, _, rfl, hbqA, rfl, rfl, hlc, hcs⟩, ⟨_, _, _, _, rfl, hbA, rfl, rfl, hlc2, hcs2⟩, rfl, trivial⟩
    ⟨hxA, fun h0 => absurd h0 hkb, fun _ => ⟨v7, v8, rfl, CanO.upd hv79 huA ⟨_, hbr9⟩, CanO.upd hv89 huA ⟨_, hbr9⟩⟩⟩

end Go.Qf

/- slices.Reverse of bytes. -/
namespace Go.Qf
open Go Go.RowKit Go.Proofs

/-- What the loop has done when it stands at i. -/
def revAt (cs D : List Value) (i : Nat) (C : List Value) : Prop :=
  C.length = (cs ++ D).length ∧ (∀ t, cs.length ≤ t → C[t]? = (cs ++ D)[t]?) ∧ ∀ t, t < cs.length → C[t]? = if t < i ∨ cs.length - 1 - i < t then cs[cs.length - 1 - t]? else cs[t]?

theorem revAt_zero (cs D : List Value) : revAt cs D 0 (cs ++ D) := by
  refine ⟨rfl, fun _ _ => rfl, fun t ht => ?_⟩
  rw [if_neg (by omega), List.getElem?_append_left ht]

theorem revAt_done {cs D C : List Value} {i : Nat} (h : revAt cs D i C) (hi : cs.length ≤ 2 * i + 1) : C = cs.reverse ++ D := by
  obtain ⟨h0, h1, h2⟩ := h
  apply List.ext_getElem?
  intro t
  by_cases ht : t < cs.length
  · rw [h2 t ht, List.getElem?_append_left (by simpa using ht), List.getElem?_reverse ht]
    by_cases hc : t < i ∨ cs.length - 1 - i < t
    · rw [if_pos hc]
    · rw [if_neg hc]
      have : cs.length - 1 - t = t := by omega
      rw [this]
  · rw [h1 t (by omega), List.getElem?_append_right (by omega), List.getElem?_append_right (by simp; omega)]
    simp

theorem revAt_step {cs D C : List Value} {i j : Nat} {x y : Value} (h : revAt cs D i C) (hj : j = cs.length - 1 - i) (hij : i < j) (hx : cs[i]? = some x) (hy : cs[j]? = some y) : revAt cs D (i + 1) ((C.set i y).set j x) := by
  obtain ⟨h0, h1, h2⟩ := h
  have hjl : j < cs.length := (List.getElem?_eq_some_iff.1 hy).1
  have hlen : cs.length ≤ C.length := by rw [h0]; simp
  refine ⟨by simpa using h0, ?_, ?_⟩
  · intro t ht
    rw [List.getElem?_set_ne (by omega), List.getElem?_set_ne (by omega)]
    exact h1 t ht
  · intro t ht
    by_cases e1 : t = j
    · subst e1
      rw [List.getElem?_set_self (by simp; omega), if_pos (.inr (by omega)), show cs.length - 1 - t = i from by omega, hx]
    · rw [List.getElem?_set_ne (fun e => e1 e.symm)]
      by_cases e2 : t = i
      · subst e2
        rw [List.getElem?_set_self (by omega), if_pos (.inl (by omega)), ← hj, hy]
      · rw [List.getElem?_set_ne (fun e => e2 e.symm), h2 t ht]
        by_cases hc : t < i ∨ cs.length - 1 - i < t
        · rw [if_pos hc, if_pos (by omega)]
        · rw [if_neg hc, if_neg (by omega)]

set_option maxRecDepth 8000 in
theorem reverse_spec (w : World) (b cap : Nat) (cs D : List Value) (hb : Blk 5 w b (cs ++ D)) (hu8 : ∀ c ∈ cs, c.cells = #[c] ∧ c.oneCell' = true) (hlen : cs.length ≤ 1000000000) :
    Calls Try.prog 79 #[.slice (some ⟨b, 0, none⟩) cs.length cap] w (Ret fun _ w' => Upd b w w' ∧ Blk 5 w' b (cs.reverse ++ D)) := by
  refine calls_of_St (args := [_]) Try.func79 rfl Try.ntmps79 rfl ?_
  (iterate 6 ((repeat with_reducible first|refine .nil ?_|refine .then_normal ?_|refine .block_normal ?_|refine .seq ?_|refine .block ?_|refine .skip ?_|refine .region ?_|refine .ret ?_|refine .then_ret ?_|refine .block_ret ?_|refine .exit ?_|refine .then_exit ?_|refine .block_exit ?_|refine .block_other rfl ?_); try refine .run TBok 99 rfl ?_))
  refine St.loop (fun i : Nat => [(0, .slice (some ⟨b, 0, none⟩) cs.length cap), (2, .int .i64 i), (3, .int .i64 ((cs.length : Int) - 1 - i))])
    (fun i w2 => Upd b w w2 ∧ i ≤ cs.length ∧ ∃ C, Blk 5 w2 b C ∧ revAt cs D i C)
    (fun i => cs.length - i) 0 ⟨rfl, rfl, ?_, trivial⟩ ⟨Upd.refl _ _, by omega, _, hb, revAt_zero cs D⟩ ?_
  · show some (Value.int .i64 (IntKind.i64.wrap ((cs.length : Int) - 1))) = _
    rw [i64_id (by omega) (by omega)]; simp
  rintro i w2 ⟨hu2, hi, C, hb2, hC⟩
  by_cases hlt : 2 * i + 1 < cs.length
  · have hxi : cs[i]? = some cs[i] := by simp
    have hj : cs.length - 1 - i < cs.length := by omega
    have hyj : cs[cs.length - 1 - i]? = some cs[cs.length - 1 - i] := by simp
    generalize cs[i] = x at hxi
    generalize cs[cs.length - 1 - i] = y at hyj
    obtain ⟨j, hjd⟩ : ∃ j, j = cs.length - 1 - i := ⟨_, rfl⟩
    rw [← hjd] at hyj hj
    have hjI : (cs.length : Int) - 1 - i = (j : Int) := by omega
    rw [hjI]
    have hCl : cs.length ≤ C.length := by rw [hC.1]; simp
    have hCi : C[i]? = some x := by rw [hC.2.2 i (by omega), if_neg (by omega)]; exact hxi
    have hCj : C[j]? = some y := by rw [hC.2.2 j hj, if_neg (by omega)]; exact hyj
    have hx1 := hu8 x (List.mem_of_getElem? hxi)
    have hy1 := hu8 y (List.mem_of_getElem? hyj)
    (repeat with_reducible first|refine .nil ?_|refine .then_normal ?_|refine .block_normal ?_|refine .seq ?_|refine .block ?_|refine .skip ?_|refine .region ?_|refine .ret ?_|refine .then_ret ?_|refine .block_ret ?_|refine .exit ?_|refine .then_exit ?_|refine .block_exit ?_|refine .block_other rfl ?_)
    refine StL.as TBok 3 (.bool true) rfl (bool_true (by omega)) ?_
    (iterate 6 ((repeat with_reducible first|refine .nil ?_|refine .then_normal ?_|refine .block_normal ?_|refine .seq ?_|refine .block ?_|refine .skip ?_|refine .region ?_|refine .ret ?_|refine .then_ret ?_|refine .block_ret ?_|refine .exit ?_|refine .then_exit ?_|refine .block_exit ?_|refine .block_other rfl ?_); try refine .run TBok 99 rfl ?_))
    refine St.condT rfl rfl ?_
    (repeat with_reducible first|refine .nil ?_|refine .then_normal ?_|refine .block_normal ?_|refine .seq ?_|refine .block ?_|refine .skip ?_|refine .region ?_|refine .ret ?_|refine .then_ret ?_|refine .block_ret ?_|refine .exit ?_|refine .then_exit ?_|refine .block_exit ?_|refine .block_other rfl ?_)
    refine St.any TBfol rfl ?_
    intro w3 hx3 _ hh3
    have hb3 := hb2.ext hx3
    have hu3 : Upd b w w3 := hu2.trans (hx3.upd b)
    refine WA.takes (fuel := 8) TBok (by kernel_rfl) (fun _ _ _ _ _ h => h) [0, 1, 2, 3, 4, 5, 8, 9] (by kernel_rfl) rfl ?_
    refine WA.take 6 rfl rfl (by kernel_rfl) (by kernel_rfl) (by kernel_rfl) (fun _ _ _ h => h) rfl rfl (fun w => RunsTo.indexAddr TBok rfl rfl rfl rfl rfl (by omega) (by omega)) ?_
    refine WA.take 10 rfl rfl (by kernel_rfl) (by kernel_rfl) (by kernel_rfl) (fun _ _ _ h => h) rfl rfl (fun w => RunsTo.indexAddr TBok rfl rfl rfl rfl rfl (by omega) (by omega)) ?_
    simp only [Int.toNat_natCast, addr_add, Nat.zero_add]
    refine WA.two (i := 7) (j := 11) (by kernel_rfl) ?_ ?_
    · refine WOp.val rfl rfl rfl rfl (RunsTo.load TBok rfl rfl rfl (hb3.cell hCj)).op ?_
      rintro _ _ ⟨rfl, rfl⟩
      refine WA.one (i := 11) (by kernel_rfl) (WOp.val rfl rfl rfl rfl (RunsTo.load TBok rfl rfl rfl (hb3.cell hCi)).op ?_)
      rintro _ _ ⟨rfl, rfl⟩
      refine WA.one (i := 12) (by kernel_rfl) (WOp.val rfl rfl rfl rfl (RunsTo.indexAddr TBok rfl rfl rfl rfl rfl (by omega) (by omega)).op ?_)
      rintro _ _ ⟨rfl, rfl⟩
      simp only [Int.toNat_natCast, addr_add, Nat.zero_add]
      refine WA.one (i := 13) (by kernel_rfl) (WOp.eff rfl rfl rfl (OpR.store TBok (vs := [y]) rfl rfl rfl (by rw [hy1.1]) rfl hb3 (by simp; omega) (by simpa using hy1.2)) ?_)
      rintro _ w4 ⟨hb4, hu4⟩
      refine WA.one (i := 14) (by kernel_rfl) (WOp.val rfl rfl rfl rfl (RunsTo.indexAddr TBok rfl rfl rfl rfl rfl (by omega) (by omega)).op ?_)
      rintro _ _ ⟨rfl, rfl⟩
      simp only [Int.toNat_natCast, addr_add, Nat.zero_add]
      refine WA.one (i := 15) (by kernel_rfl) (WOp.eff rfl rfl rfl (OpR.store TBok (vs := [x]) rfl rfl rfl (by rw [hx1.1]) rfl hb4 (by simp [over]; omega) (by simpa using hx1.2)) ?_)
      rintro _ w5 ⟨hb5, hu5⟩
      refine WA.done (by kernel_rfl) ?_
      (iterate 6 ((repeat with_reducible first|refine .nil ?_|refine .then_normal ?_|refine .block_normal ?_|refine .seq ?_|refine .block ?_|refine .skip ?_|refine .region ?_|refine .ret ?_|refine .then_ret ?_|refine .block_ret ?_|refine .exit ?_|refine .then_exit ?_|refine .block_exit ?_|refine .block_other rfl ?_); try refine .run TBok 99 rfl ?_))
      refine Out.again (i + 1) ⟨rfl, ?_, ?_, trivial⟩ ⟨(hu3.trans hu4).trans hu5, by omega, _, hb5, revAt_step hC hjd (by omega) hxi hyj⟩ (by omega)
      · show some (Value.int .i64 (IntKind.i64.wrap ((i : Int) + 1))) = _
        rw [i64_id (by omega) (by omega)]; rfl
      · show some (Value.int .i64 (IntKind.i64.wrap ((j : Int) - 1))) = _
        rw [i64_id (by omega) (by omega)]; congr 2; omega
    · refine WOp.val rfl rfl rfl rfl (RunsTo.load TBok rfl rfl rfl (hb3.cell hCi)).op ?_
      rintro _ _ ⟨rfl, rfl⟩
      refine WA.one (i := 7) (by kernel_rfl) (WOp.val rfl rfl rfl rfl (RunsTo.load TBok rfl rfl rfl (hb3.cell hCj)).op ?_)
      rintro _ _ ⟨rfl, rfl⟩
      refine WA.one (i := 12) (by kernel_rfl) (WOp.val rfl rfl rfl rfl (RunsTo.indexAddr TBok rfl rfl rfl rfl rfl (by omega) (by omega)).op ?_)
      rintro _ _ ⟨rfl, rfl⟩
      simp only [Int.toNat_natCast, addr_add, Nat.zero_add]
      refine WA.one (i := 13) (by kernel_rfl) (WOp.eff rfl rfl rfl (OpR.store TBok (vs := [y]) rfl rfl rfl (by rw [hy1.1]) rfl hb3 (by simp; omega) (by simpa using hy1.2)) ?_)
      rintro _ w4 ⟨hb4, hu4⟩
      refine WA.one (i := 14) (by kernel_rfl) (WOp.val rfl rfl rfl rfl (RunsTo.indexAddr TBok rfl rfl rfl rfl rfl (by omega) (by omega)).op ?_)
      rintro _ _ ⟨rfl, rfl⟩
      simp only [Int.toNat_natCast, addr_add, Nat.zero_add]
      refine WA.one (i := 15) (by kernel_rfl) (WOp.eff rfl rfl rfl (OpR.store TBok (vs := [x]) rfl rfl rfl (by rw [hx1.1]) rfl hb4 (by simp [over]; omega) (by simpa using hx1.2)) ?_)
      rintro _ w5 ⟨hb5, hu5⟩
      refine WA.done (by kernel_rfl) ?_
      (iterate 6 ((repeat with_reducible first|refine .nil ?_|refine .then_normal ?_|refine .block_normal ?_|refine .seq ?_|refine .block ?_|refine .skip ?_|refine .region ?_|refine .ret ?_|refine .then_ret ?_|refine .block_ret ?_|refine .exit ?_|refine .then_exit ?_|refine .block_exit ?_|refine .block_other rfl ?_); try refine .run TBok 99 rfl ?_))
      refine Out.again (i + 1) ⟨rfl, ?_, ?_, trivial⟩ ⟨(hu3.trans hu4).trans hu5, by omega, _, hb5, revAt_step hC hjd (by omega) hxi hyj⟩ (by omega)
      · show some (Value.int .i64 (IntKind.i64.wrap ((i : Int) + 1))) = _
        rw [i64_id (by omega) (by omega)]; rfl
      · show some (Value.int .i64 (IntKind.i64.wrap ((j : Int) - 1))) = _
        rw [i64_id (by omega) (by omega)]; congr 2; omega
  · (repeat with_reducible first|refine .nil ?_|refine .then_normal ?_|refine .block_normal ?_|refine .seq ?_|refine .block ?_|refine .skip ?_|refine .region ?_|refine .ret ?_|refine .then_ret ?_|refine .block_ret ?_|refine .exit ?_|refine .then_exit ?_|refine .block_exit ?_|refine .block_other rfl ?_)
    refine StL.as TBok 3 (.bool false) rfl (bool_false (by omega)) ?_
    (iterate 6 ((repeat with_reducible first|refine .nil ?_|refine .then_normal ?_|refine .block_normal ?_|refine .seq ?_|refine .block ?_|refine .skip ?_|refine .region ?_|refine .ret ?_|refine .then_ret ?_|refine .block_ret ?_|refine .exit ?_|refine .then_exit ?_|refine .block_exit ?_|refine .block_other rfl ?_); try refine .run TBok 99 rfl ?_))
    refine St.condF rfl rfl ?_
    (repeat with_reducible first|refine .nil ?_|refine .then_normal ?_|refine .block_normal ?_|refine .seq ?_|refine .block ?_|refine .skip ?_|refine .region ?_|refine .ret ?_|refine .then_ret ?_|refine .block_ret ?_|refine .exit ?_|refine .then_exit ?_|refine .block_exit ?_|refine .block_other rfl ?_)
    refine Out.none0 rfl ⟨hu2, ?_⟩
    rw [← revAt_done hC (by omega)]
    exact hb2

end Go.Qf

/- Decimal digits: plain arithmetic. -/
namespace Go.Qf

/-- The first k decimal digits of n, the least first, as bytes. -/
def pad : Nat → Nat → List Nat
  | 0, _ => []
  | k + 1, n => (48 + n % 10) :: pad k (n / 10)

theorem pad_length : ∀ k n, (pad k n).length = k := by
  intro k
  induction k with
  | zero => intro n; rfl
  | succ k ih => intro n; simp [pad, ih]

theorem pad_succ : ∀ k n, pad (k + 1) n = pad k n ++ [48 + n / 10 ^ k % 10] := by
  intro k
  induction k with
  | zero => intro n; simp [pad]
  | succ k ih =>
    intro n
    have h := ih (n / 10)
    rw [show pad (k + 1 + 1) n = (48 + n % 10) :: pad (k + 1) (n / 10) from rfl, h]
    rw [Nat.div_div_eq_div_mul, show 10 * 10 ^ k = 10 ^ (k + 1) from by rw [Nat.pow_succ, Nat.mul_comm]]
    rfl

theorem pad_lim : ∀ k n, ∀ b ∈ pad k n, 48 ≤ b ∧ b ≤ 57 := by
  intro k
  induction k with
  | zero => intro n b hb; cases hb
  | succ k ih =>
    intro n b hb
    rcases List.mem_cons.1 hb with rfl | hb
    · omega
    · exact ih _ b hb

/-- The decimal digits of n, the least first. -/
def digsF : Nat → Nat → List Nat
  | 0, _ => []
  | f + 1, n => if n = 0 then [] else (48 + n % 10) :: digsF f (n / 10)
def digs (n : Nat) : List Nat := digsF n n

theorem digsF_enough : ∀ (f g n : Nat), n ≤ f → n ≤ g → digsF f n = digsF g n := by
  intro f
  induction f with
  | zero =>
    intro g n h1 h2
    have : n = 0 := by omega
    subst this
    cases g <;> simp [digsF]
  | succ f ih =>
    intro g n h1 h2
    cases g with
    | zero =>
      have : n = 0 := by omega
      subst this
      simp [digsF]
    | succ g =>
      simp only [digsF]
      split
      · rfl
      · rw [ih g (n / 10) (by omega) (by omega)]

theorem digs_zero : digs 0 = [] := rfl
theorem digs_eq (n : Nat) (h : n ≠ 0) : digs n = (48 + n % 10) :: digs (n / 10) := by
  unfold digs
  obtain ⟨m, rfl⟩ : ∃ m, n = m + 1 := ⟨n - 1, by omega⟩
  rw [show digsF (m + 1) (m + 1) = (48 + (m + 1) % 10) :: digsF m ((m + 1) / 10) from by simp [digsF]]
  rw [digsF_enough m ((m + 1) / 10) ((m + 1) / 10) (by omega) (Nat.le_refl _)]

theorem pad_digs : ∀ k n, n < 10 ^ k → 10 ^ k ≤ 10 * n → pad k n = digs n := by
  intro k
  induction k with
  | zero => intro n h1 h2; simp at h1; subst h1; simp at h2
  | succ k ih =>
    intro n h1 h2
    have hn : n ≠ 0 := by
      intro e; subst e
      have : 0 < 10 ^ (k + 1) := Nat.pow_pos (by decide)
      omega
    rw [digs_eq n hn]
    show (48 + n % 10) :: pad k (n / 10) = _
    congr 1
    rw [Nat.pow_succ] at h1 h2
    cases k with
    | zero =>
      have : n / 10 = 0 := by simp at h1; omega
      rw [this]; rfl
    | succ k =>
      refine ih (n / 10) (by omega) ?_
      rw [Nat.pow_succ] at h1 h2 ⊢
      omega

theorem digs_pos (n : Nat) (h : n ≠ 0) : digs n ≠ [] := by rw [digs_eq n h]; simp

theorem digs_lim (n : Nat) : ∀ b ∈ digs n, 48 ≤ b ∧ b ≤ 57 := by
  induction n using Nat.strongRecOn with
  | _ n ih =>
    by_cases h : n = 0
    · subst h; intro b hb; cases hb
    · rw [digs_eq n h]
      intro b hb
      rcases List.mem_cons.1 hb with rfl | hb
      · omega
      · exact ih (n / 10) (by omega) b hb

/-- The text of a natural number, and of an integer. -/
def fmtN (n : Nat) : List Nat := if n = 0 then [48] else (digs n).reverse
def fmtI (a : Int) : List Nat := if a < 0 then 45 :: fmtN a.natAbs else fmtN a.natAbs

theorem fmtN_lim (n : Nat) : ∀ b ∈ fmtN n, 48 ≤ b ∧ b ≤ 57 := by
  unfold fmtN
  split
  · intro b hb; simp at hb; omega
  · intro b hb; exact digs_lim n b (by simpa using hb)

theorem fmtI_lim (a : Int) : ∀ b ∈ fmtI a, b < 256 := by
  unfold fmtI
  split
  · intro b hb
    rcases List.mem_cons.1 hb with rfl | hb
    · omega
    · have := fmtN_lim _ b hb; omega
  · intro b hb; have := fmtN_lim _ b hb; omega

theorem pow10_8 (k : Nat) : 8 ^ k ≤ 10 ^ k := Nat.pow_le_pow_left (by decide) k

/-- How many digits a number of so many limbs has. -/
theorem digits_le {N k len : Nat} (hN : N < 4294967296 ^ len) (hk : 10 ^ k ≤ N) : k ≤ 11 * len := by
  have h1 : 2 ^ (3 * k) ≤ 10 ^ k := by rw [Nat.pow_mul]; exact pow10_8 k
  have h2 : 4294967296 ^ len = 2 ^ (32 * len) := by rw [Nat.pow_mul]
  rw [h2] at hN
  have h3 : 2 ^ (3 * k) < 2 ^ (32 * len) := by omega
  have := (Nat.pow_lt_pow_iff_right (by decide : 1 < 2)).1 h3
  omega

theorem digs_length_le {N k : Nat} (h : N < 10 ^ k) : (digs N).length ≤ k := by
  induction k generalizing N with
  | zero => simp at h; subst h; simp [digs_zero]
  | succ k ih =>
    by_cases h0 : N = 0
    · subst h0; simp [digs_zero]
    · rw [digs_eq N h0]
      rw [Nat.pow_succ] at h
      have := ih (N := N / 10) (by omega)
      simp; omega

theorem digs_length_limbs {N len : Nat} (hN : N < 4294967296 ^ len) : (digs N).length ≤ 11 * len + 1 := by
  refine digs_length_le ?_
  rcases Nat.lt_or_ge N (10 ^ (11 * len + 1)) with h | h
  · exact h
  · have := digits_le hN h; omega

end Go.Qf

/- integer.Format. -/
namespace Go.Qf
open Go Go.RowKit Go.Proofs

theorem Own.opened {base : Nat} {e : TypeId} {w : World} {v : Value} {cs : List Value} (h : Own base e w v cs) (hne : cs ≠ []) : ∃ g cap D, v = .slice (some ⟨g, 0, none⟩) cs.length cap ∧ base ≤ g ∧ Blk e w g (cs ++ D) ∧ cap = cs.length + D.length ∧ cap ≤ maxLen := by
  obtain ⟨_, h2⟩ := h
  rcases h2 with ⟨_, h0⟩ | ⟨g, cap, cur, hv, hg, hh, hn, hm, hs, ht⟩
  · exact absurd (List.eq_nil_of_length_eq_zero h0) hne
  · simp only [Nat.mul_one] at hs ht
    refine ⟨g, cap, cur.toList.drop cs.length, hv, hg, ?_, ?_, hm⟩
    · have e1 := List.take_append_drop cs.length cur.toList
      rw [ht] at e1
      unfold Blk
      rw [hh, e1]
    · simp; omega

theorem Own.form {base : Nat} {e : TypeId} {w : World} {v : Value} {cs : List Value} (h : Own base e w v cs) : ∃ p cap, v = .slice p cs.length cap ∧ cs.length ≤ cap := by
  obtain ⟨p, cap, hv, hl, _⟩ := h.row
  exact ⟨p, cap, hv, hl⟩

theorem u8_one (bs : List Nat) : ∀ c ∈ bs.map u8, c.oneCell' = true := by
  intro c hc; simp at hc; obtain ⟨x, _, rfl⟩ := hc; rfl

/-- append(text, b): the text in a slice of the call's own. -/
theorem StL.push8 {n : Nat} {E : List (Nat × Value)} {w w0 : World} {ops : Array Oper} {rest : List Oper} {Q : Exit → Act → World → Prop} {d1 d2 : Nat} {x : Operand} {s : Nat} {ty ty2 : TypeId} {pos pos2 : String} {af af2 : Array Edge} {base : Nat} {tv : Value} {bs : List Nat} (b : Nat) {bv : Int}
    (hx : ov E x = some (.int .u8 bv)) (hbv : bv = b) (hs : ∀ p, look ((d1, p) :: E) s = some tv) (hown : Own base 5 w tv (bs.map u8)) (hlen : bs.length ≤ 100000000000) (hx0 : Ext w0 w) (hb0 : w0.heap.size ≤ base) (hbase : base ≤ w.heap.size) (hn : Nat.blt d1 n = true) (hn2 : Nat.blt d2 n = true)
    (next : ∀ p v' w' wm, Ext w wm → Own base 5 wm tv (bs.map u8) → wm.grownBy w' tv.ownBlock → Own base 5 w' v' ((bs ++ [b]).map u8) → Ext w0 w' → StL Try.prog n ((d2, v') :: (d1, p) :: E) w' ops rest Q) :
    StL Try.prog n E w ops (⟨some d1, .buildSlice 50 1 #[(0, x)], ty, pos, af, none⟩ :: ⟨some d2, .call ⟨.builtin .append, #[.tmp s, .tmp d1], #[50, 50]⟩, ty2, pos2, af2, none⟩ :: rest) Q := by
  subst hbv
  refine StL.step rfl rfl hn (OpR.single TBok rfl rfl rfl hx) ?_
  rintro _ wm ⟨rfl, hbm, hxm, hzm⟩
  have hown' := hown.ext hxm
  have hrow : Row 5 wm (.slice (some ⟨w.heap.size, 0, none⟩) 1 1) ([b].map u8) := hbm.row rfl (by simp) (by simp) rfl
  refine StL.step rfl rfl hn2 (OpR.append TBok rfl rfl rfl rfl (hs _) (look_cons_self _ _ _) hown' hrow (u8_one [b]) (by simp; omega) (by simp; omega) (by have := hxm.size; omega)) ?_
  rintro v' w' ⟨ho, hg, _⟩
  refine next _ v' w' wm hxm hown' hg ?_ ((hx0.trans hxm).grown hown' hb0 hg)
  rw [List.map_append]; exact ho

theorem i64_of (n : Nat) (h : n ≤ 9223372036854775807) : IntKind.i64.wrap (n : Int) = n := i64_id (by omega) (by omega)

set_option maxRecDepth 8000 in
set_option maxHeartbeats 800000 in
theorem format_spec (w : World) (v : Value) (neg : Bool) (xs : List Nat) (h : Den w v neg xs) (hlen : xs.length ≤ 1000000) :
    Calls Try.prog 44 #[v] w (Ret fun r w' => Ext w w' ∧ r = strV (fmtI (sg neg (val xs)))) := by
  obtain ⟨p, cap, rfl, hs⟩ := h
  have hl1 := limbs_length_le xs hs.2
  refine calls_of_St (args := [_]) Try.func44 rfl Try.ntmps44 rfl ?_
  (repeat with_reducible first|refine .nil ?_|refine .then_normal ?_|refine .block_normal ?_|refine .seq ?_|refine .block ?_|refine .skip ?_|refine .region ?_|refine .ret ?_|refine .then_ret ?_|refine .block_ret ?_|refine .exit ?_|refine .then_exit ?_|refine .block_exit ?_|refine .block_other rfl ?_)
  refine StL.step rfl rfl rfl (OpR.box rfl) ?_
  rintro _ w1 ⟨rfl, hb1, hx1, hz1⟩
  (iterate 6 ((repeat with_reducible first|refine .nil ?_|refine .then_normal ?_|refine .block_normal ?_|refine .seq ?_|refine .block ?_|refine .skip ?_|refine .region ?_|refine .ret ?_|refine .then_ret ?_|refine .block_ret ?_|refine .exit ?_|refine .then_exit ?_|refine .block_exit ?_|refine .block_other rfl ?_); try refine .run TBok 99 rfl ?_))
  (refine StL.step rfl rfl rfl (RunsTo.load TBok rfl rfl rfl (Blk.cell (by first | assumption | exact Ext.refl _ | (apply Blk.ext; assumption; (repeat first | assumption | refine Ext.trans ?_ (by assumption))) | (apply CanO.ext; assumption; (repeat first | assumption | refine Ext.trans ?_ (by assumption))) | (apply Den.ext; assumption; (repeat first | assumption | refine Ext.trans ?_ (by assumption))) | (apply Sl.ext; assumption; (repeat first | assumption | refine Ext.trans ?_ (by assumption))) | (apply SlO.ext; assumption; (repeat first | assumption | refine Ext.trans ?_ (by assumption))) | (apply Dn.ext; assumption; (repeat first | assumption | refine Ext.trans ?_ (by assumption))) | (apply It.ext; assumption; (repeat first | assumption | refine Ext.trans ?_ (by assumption))) | (repeat first | assumption | refine Ext.trans ?_ (by assumption))) rfl)).op ?_; rintro _ _ ⟨rfl, rfl⟩)
  refine StL.step rfl rfl rfl (OpR.call fn_integer_trim rfl (trim_flow w1 _ _ _ (by first | assumption | exact Ext.refl _ | (apply Blk.ext; assumption; (repeat first | assumption | refine Ext.trans ?_ (by assumption))) | (apply CanO.ext; assumption; (repeat first | assumption | refine Ext.trans ?_ (by assumption))) | (apply Den.ext; assumption; (repeat first | assumption | refine Ext.trans ?_ (by assumption))) | (apply Sl.ext; assumption; (repeat first | assumption | refine Ext.trans ?_ (by assumption))) | (apply SlO.ext; assumption; (repeat first | assumption | refine Ext.trans ?_ (by assumption))) | (apply Dn.ext; assumption; (repeat first | assumption | refine Ext.trans ?_ (by assumption))) | (apply It.ext; assumption; (repeat first | assumption | refine Ext.trans ?_ (by assumption))) | (repeat first | assumption | refine Ext.trans ?_ (by assumption))) (by omega))) ?_
  rintro _ w2 ⟨hx2, rfl⟩
  refine StL.step rfl rfl rfl (OpR.call fn_slices_Clone_uint32_uint32 rfl (clone_flow (base := w.heap.size) w2 _ _ (clone_trim (by first | assumption | exact Ext.refl _ | (apply Blk.ext; assumption; (repeat first | assumption | refine Ext.trans ?_ (by assumption))) | (apply CanO.ext; assumption; (repeat first | assumption | refine Ext.trans ?_ (by assumption))) | (apply Den.ext; assumption; (repeat first | assumption | refine Ext.trans ?_ (by assumption))) | (apply Sl.ext; assumption; (repeat first | assumption | refine Ext.trans ?_ (by assumption))) | (apply SlO.ext; assumption; (repeat first | assumption | refine Ext.trans ?_ (by assumption))) | (apply Dn.ext; assumption; (repeat first | assumption | refine Ext.trans ?_ (by assumption))) | (apply It.ext; assumption; (repeat first | assumption | refine Ext.trans ?_ (by assumption))) | (repeat first | assumption | refine Ext.trans ?_ (by assumption)))) (by omega) (hx1.trans hx2).size)) ?_
  rintro mv w3 ⟨hx3, hm3⟩
  have hx03 : Ext w w3 := (by first | assumption | exact Ext.refl _ | (apply Blk.ext; assumption; (repeat first | assumption | refine Ext.trans ?_ (by assumption))) | (apply CanO.ext; assumption; (repeat first | assumption | refine Ext.trans ?_ (by assumption))) | (apply Den.ext; assumption; (repeat first | assumption | refine Ext.trans ?_ (by assumption))) | (apply Sl.ext; assumption; (repeat first | assumption | refine Ext.trans ?_ (by assumption))) | (apply SlO.ext; assumption; (repeat first | assumption | refine Ext.trans ?_ (by assumption))) | (apply Dn.ext; assumption; (repeat first | assumption | refine Ext.trans ?_ (by assumption))) | (apply It.ext; assumption; (repeat first | assumption | refine Ext.trans ?_ (by assumption))) | (repeat first | assumption | refine Ext.trans ?_ (by assumption)))
  have hb3 := (hb1.ext hx2).ext hx3
  obtain ⟨mp, mc, rfl, _⟩ := hm3.sl.form
  generalize hN : val xs = N at *
  have hNlt : N < 4294967296 ^ xs.length := by rw [← hN]; exact val_lt xs hs.2
  (iterate 6 ((repeat with_reducible first|refine .nil ?_|refine .then_normal ?_|refine .block_normal ?_|refine .seq ?_|refine .block ?_|refine .skip ?_|refine .region ?_|refine .ret ?_|refine .then_ret ?_|refine .block_ret ?_|refine .exit ?_|refine .then_exit ?_|refine .block_exit ?_|refine .block_other rfl ?_); try refine .run TBok 99 rfl ?_))
  by_cases h0 : N = 0
  · subst h0
    refine St.condT rfl rfl ?_
    (iterate 6 ((repeat with_reducible first|refine .nil ?_|refine .then_normal ?_|refine .block_normal ?_|refine .seq ?_|refine .block ?_|refine .skip ?_|refine .region ?_|refine .ret ?_|refine .then_ret ?_|refine .block_ret ?_|refine .exit ?_|refine .then_exit ?_|refine .block_exit ?_|refine .block_other rfl ?_); try refine .run TBok 99 rfl ?_))
    refine Out.ret1 rfl rfl ⟨hx03, ?_⟩
    cases neg <;> rfl
  refine St.condF rfl (by simp [limbs_eq_nil, h0]) ?_
  (iterate 6 ((repeat with_reducible first|refine .nil ?_|refine .then_normal ?_|refine .block_normal ?_|refine .seq ?_|refine .block ?_|refine .skip ?_|refine .region ?_|refine .ret ?_|refine .then_ret ?_|refine .block_ret ?_|refine .exit ?_|refine .then_exit ?_|refine .block_exit ?_|refine .block_other rfl ?_); try refine .run TBok 99 rfl ?_))
  -- the digits
  refine St.loop (fun g : Value × Value × Nat => [(1, .pointer (some ⟨w.heap.size, 0, none⟩)), (3, g.1), (4, g.2.1)])
    (fun g w' => Ext w w' ∧ SlO w.heap.size w' g.1 (limbs (N / 10 ^ g.2.2)) ∧ Own w.heap.size 5 w' g.2.1 ((pad g.2.2 N).map u8) ∧ Blk 24 w' w.heap.size [.bool neg, .slice p xs.length cap] ∧ g.2.2 ≤ 11 * xs.length + 9)
    (fun g => N / 10 ^ g.2.2) (.slice mp _ mc, .slice none 0 0, 0) ⟨rfl, rfl, rfl, trivial⟩ ⟨hx03, by simpa using hm3, Own.nil _ _ _, hb3, by dsimp only; omega⟩ ?_
  rintro ⟨mv4, tv4, k⟩ w4 ⟨hx4, hm4, ht4, hb4, hk4⟩
  dsimp only at hx4 hm4 ht4 hb4 hk4 ⊢
  obtain ⟨mp4, mc4, rfl, _⟩ := hm4.sl.form
  (iterate 6 ((repeat with_reducible first|refine .nil ?_|refine .then_normal ?_|refine .block_normal ?_|refine .seq ?_|refine .block ?_|refine .skip ?_|refine .region ?_|refine .ret ?_|refine .then_ret ?_|refine .block_ret ?_|refine .exit ?_|refine .then_exit ?_|refine .block_exit ?_|refine .block_other rfl ?_); try refine .run TBok 99 rfl ?_))
  by_cases hM : N / 10 ^ k = 0
  · -- all digits are there
    refine St.condF rfl (by rw [hM]; rfl) ?_
    have hNk : N < 10 ^ k := by
      rcases Nat.lt_or_ge N (10 ^ k) with h | h
      · exact h
      · have := Nat.div_pos h (Nat.pow_pos (by decide : 0 < 10)); omega
    (repeat with_reducible first|refine .nil ?_|refine .then_normal ?_|refine .block_normal ?_|refine .seq ?_|refine .block ?_|refine .skip ?_|refine .region ?_|refine .ret ?_|refine .then_ret ?_|refine .block_ret ?_|refine .exit ?_|refine .then_exit ?_|refine .block_exit ?_|refine .block_other rfl ?_)
    refine St.loop (fun g : Value × Nat => [(1, .pointer (some ⟨w.heap.size, 0, none⟩)), (4, g.1)])
      (fun g w' => w' = w4 ∧ Own w.heap.size 5 w4 g.1 ((pad g.2 N).map u8) ∧ N < 10 ^ g.2 ∧ g.2 ≤ k) (fun g => g.2) (tv4, k) ⟨rfl, rfl, trivial⟩ ⟨rfl, ht4, hNk, Nat.le_refl _⟩ ?_
    rintro ⟨tv5, j⟩ w5 ⟨rfl, ht5, hj5, hjk⟩
    dsimp only at ht5 hj5 hjk ⊢
    obtain ⟨tp5, tc5, rfl, hcap5⟩ := ht5.form
    obtain ⟨i, rfl⟩ : ∃ i, j = i + 1 := ⟨j - 1, by
      rcases Nat.eq_zero_or_pos j with e | e
      · subst e; simp at hj5; omega
      · omega⟩
    simp only [List.length_map, pad_length] at ht5 hcap5 ⊢
    have e1 : IntKind.i64.wrap (((i + 1 : Nat) : Int) - 1) = (i : Int) := by rw [i64_id (by omega) (by omega)]; omega
    have hdig : ((pad (i + 1) N).map u8)[i]? = some (u8 (48 + N / 10 ^ i % 10)) := by
      rw [pad_succ, List.map_append, List.getElem?_append_right (by simp [pad_length])]
      simp [pad_length]
    (repeat with_reducible first|refine .nil ?_|refine .then_normal ?_|refine .block_normal ?_|refine .seq ?_|refine .block ?_|refine .skip ?_|refine .region ?_|refine .ret ?_|refine .then_ret ?_|refine .block_ret ?_|refine .exit ?_|refine .then_exit ?_|refine .block_exit ?_|refine .block_other rfl ?_)
    refine .run TBok 99 rfl ?_
    refine StL.elem TBok i _ (Own.row ht5) hdig e1 rfl rfl rfl rfl rfl rfl rfl rfl rfl rfl (fun _ => rfl) ?_
    intro p1
    refine .run TBok 99 rfl ?_
    (refine StL.nil ?_; repeat with_reducible first | refine Out.then_normal ?_ | refine Out.block_normal ?_)
    by_cases hd : N / 10 ^ i % 10 = 0
    · refine St.condT rfl (by rw [hd]; rfl) ?_
      have hNi : N < 10 ^ i := by
        rw [Nat.pow_succ] at hj5
        rcases Nat.lt_or_ge N (10 ^ i) with h | h
        · exact h
        · have h1 := Nat.div_pos h (Nat.pow_pos (by decide : 0 < 10))
          have h2 : N / 10 ^ i < 10 := Nat.div_lt_of_lt_mul hj5
          omega
      (repeat with_reducible first|refine .nil ?_|refine .then_normal ?_|refine .block_normal ?_|refine .seq ?_|refine .block ?_|refine .skip ?_|refine .region ?_|refine .ret ?_|refine .then_ret ?_|refine .block_ret ?_|refine .exit ?_|refine .then_exit ?_|refine .block_exit ?_|refine .block_other rfl ?_)
      refine .run TBok 99 rfl ?_
      refine StL.step rfl rfl rfl (RunsTo.sliceHi TBok rfl rfl rfl rfl (by rw [e1]; omega) (by rw [e1]; omega)).op ?_
      rintro _ _ ⟨rfl, rfl⟩
      rw [e1]
      (iterate 6 ((repeat with_reducible first|refine .nil ?_|refine .then_normal ?_|refine .block_normal ?_|refine .seq ?_|refine .block ?_|refine .skip ?_|refine .region ?_|refine .ret ?_|refine .then_ret ?_|refine .block_ret ?_|refine .exit ?_|refine .then_exit ?_|refine .block_exit ?_|refine .block_other rfl ?_); try refine .run TBok 99 rfl ?_))
      refine Out.again (.slice tp5 i tc5, i) ⟨rfl, rfl, trivial⟩ ⟨rfl, ?_, hNi, by omega⟩ (Nat.lt_succ_self i)
      have := Own.cut ht5 i (by simp [pad_length])
      rw [pad_succ, ← List.map_take, List.take_left' (pad_length i N)] at this
      exact this
    · have hlow : 10 ^ (i + 1) ≤ 10 * N := by
        rw [Nat.pow_succ]
        rcases Nat.lt_or_ge N (10 ^ i) with h | h
        · rw [Nat.div_eq_of_lt h] at hd; simp at hd
        · omega
      have hpd := pad_digs (i + 1) N hj5 hlow
      refine St.condF rfl (by
        have : ¬ ((((48 + N / 10 ^ i % 10 : Nat) : Int)) = 48) := by omega
        simpa using this) ?_
      have hil : i + 1 ≤ 11 * xs.length + 9 := by omega
      generalize i + 1 = m at hpd ht5 hcap5 hil ⊢
      rw [hpd] at ht5
      have hdl : (digs N).length = m := by rw [← hpd, pad_length]
      (iterate 6 ((repeat with_reducible first|refine .nil ?_|refine .then_normal ?_|refine .block_normal ?_|refine .seq ?_|refine .block ?_|refine .skip ?_|refine .region ?_|refine .ret ?_|refine .then_ret ?_|refine .block_ret ?_|refine .exit ?_|refine .then_exit ?_|refine .block_exit ?_|refine .block_other rfl ?_); try refine .run TBok 99 rfl ?_))
      (refine StL.step rfl rfl rfl (RunsTo.load TBok rfl rfl rfl (Blk.cell (by first | assumption | exact Ext.refl _ | (apply Blk.ext; assumption; (repeat first | assumption | refine Ext.trans ?_ (by assumption))) | (apply CanO.ext; assumption; (repeat first | assumption | refine Ext.trans ?_ (by assumption))) | (apply Den.ext; assumption; (repeat first | assumption | refine Ext.trans ?_ (by assumption))) | (apply Sl.ext; assumption; (repeat first | assumption | refine Ext.trans ?_ (by assumption))) | (apply SlO.ext; assumption; (repeat first | assumption | refine Ext.trans ?_ (by assumption))) | (apply Dn.ext; assumption; (repeat first | assumption | refine Ext.trans ?_ (by assumption))) | (apply It.ext; assumption; (repeat first | assumption | refine Ext.trans ?_ (by assumption))) | (repeat first | assumption | refine Ext.trans ?_ (by assumption))) rfl)).op ?_; rintro _ _ ⟨rfl, rfl⟩)
      (refine StL.nil ?_; repeat with_reducible first | refine Out.then_normal ?_ | refine Out.block_normal ?_)
      -- the sign
      refine St.cutX (fun g : Value => [(4, g)]) (fun g w' => Ext w w' ∧ Own w.heap.size 5 w' g ((digs N ++ (if neg then [45] else [])).map u8)) ?_ ?_
      · cases neg with
        | true =>
          refine St.condT rfl rfl ?_
          (iterate 6 ((repeat with_reducible first|refine .nil ?_|refine .then_normal ?_|refine .block_normal ?_|refine .seq ?_|refine .block ?_|refine .skip ?_|refine .region ?_|refine .ret ?_|refine .then_ret ?_|refine .block_ret ?_|refine .exit ?_|refine .then_exit ?_|refine .block_exit ?_|refine .block_other rfl ?_); try refine .run TBok 99 rfl ?_))
          refine StL.push8 45 rfl rfl (fun _ => rfl) ht5 (by omega) hx4 (Nat.le_refl _) hx4.size rfl rfl ?_
          intro p2 v' w6 wm _ _ _ ho6 hx6
          refine .run TBok 99 rfl ?_
          exact StL.nil (Out.met v' ⟨rfl, trivial⟩ ⟨hx6, ho6⟩)
        | false =>
          refine St.condF rfl rfl ?_
          refine St.skip (Out.met _ ⟨rfl, trivial⟩ ⟨hx4, by simpa using ht5⟩)
      rintro tv6 w6 ⟨hx6, ht6⟩
      have hne : ((digs N ++ (if neg then [45] else [])).map u8) ≠ [] := by
        have := digs_pos N h0
        simp [this]
      have hlen6 : ((digs N ++ (if neg then [45] else [])).map u8).length ≤ m + 1 := by
        cases neg <;> simp [hdl]
      obtain ⟨g6, c6, D6, rfl, hg6, hb6, hc6, hm6⟩ := ht6.opened hne
      (iterate 6 ((repeat with_reducible first|refine .nil ?_|refine .then_normal ?_|refine .block_normal ?_|refine .seq ?_|refine .block ?_|refine .skip ?_|refine .region ?_|refine .ret ?_|refine .then_ret ?_|refine .block_ret ?_|refine .exit ?_|refine .then_exit ?_|refine .block_exit ?_|refine .block_other rfl ?_); try refine .run TBok 99 rfl ?_))
      refine StL.step rfl rfl rfl (OpR.call fn_slices_Reverse_byte_byte rfl (reverse_spec w6 g6 c6 _ D6 hb6 (by intro c hc; simp only [List.mem_map] at hc; obtain ⟨x, _, rfl⟩ := hc; exact ⟨rfl, rfl⟩) (by omega))) ?_
      rintro _ w7 ⟨hu7, hb7⟩
      have hx7 := hx6.then_upd hu7 hg6
      (iterate 6 ((repeat with_reducible first|refine .nil ?_|refine .then_normal ?_|refine .block_normal ?_|refine .seq ?_|refine .block ?_|refine .skip ?_|refine .region ?_|refine .ret ?_|refine .then_ret ?_|refine .block_ret ?_|refine .exit ?_|refine .then_exit ?_|refine .block_exit ?_|refine .block_other rfl ?_); try refine .run TBok 99 rfl ?_))
      have hrow : Row 5 w7 (.slice (some ⟨g6, 0, none⟩) ((digs N ++ (if neg then [45] else [])).map u8).length c6) ((fmtI (sg neg N)).map u8) := by
        have e : (fmtI (sg neg N)).map u8 = ((digs N ++ (if neg then [45] else [])).map u8).reverse := by
          rw [← List.map_reverse, List.reverse_append]
          congr 1
          unfold fmtI fmtN
          rw [sg_abs, if_neg h0]
          cases neg
          · rw [if_neg (by simp [sg])]; rfl
          · rw [if_pos (by simp [sg]; omega)]; rfl
        rw [e]
        refine hb7.row (by rw [List.length_reverse]) (by omega) ?_ ?_
        · simp at hc6 ⊢; omega
        · rw [List.drop_zero, List.take_left' (by rw [List.length_reverse])]
      refine StL.step rfl rfl rfl (RunsTo.bytesStr TBok rfl rfl rfl rfl rfl hrow).op ?_
      rintro _ _ ⟨rfl, rfl⟩
      (iterate 6 ((repeat with_reducible first|refine .nil ?_|refine .then_normal ?_|refine .block_normal ?_|refine .seq ?_|refine .block ?_|refine .skip ?_|refine .region ?_|refine .ret ?_|refine .then_ret ?_|refine .block_ret ?_|refine .exit ?_|refine .then_exit ?_|refine .block_exit ?_|refine .block_other rfl ?_); try refine .run TBok 99 rfl ?_))
      exact Out.ret1 rfl rfl ⟨hx7, rfl⟩
  · -- nine digits more
    have hk10 : 10 ^ k ≤ N := by
      rcases Nat.lt_or_ge N (10 ^ k) with h | h
      · exact absurd (Nat.div_eq_of_lt h) hM
      · exact h
    have hkb := digits_le hNlt hk10
    have hml : (limbs (N / 10 ^ k)).length ≤ 1000000 := by
      refine Nat.le_trans (limbs_length_mono _ N (Nat.div_le_self _ _)) ?_
      exact Nat.le_trans (limbs_length_lt hNlt) hlen
    have hpos : 0 < (limbs (N / 10 ^ k)).length := by
      rcases Nat.eq_zero_or_pos (limbs (N / 10 ^ k)).length with e | e
      · exact absurd (limbs_eq_nil.1 (List.eq_nil_of_length_eq_zero e)) hM
      · exact e
    refine St.condT rfl (by simp; omega) ?_
    obtain ⟨g, mc, D, hmv, hg, hbm, hmc, hmm⟩ := hm4.opened (fun e => hM (limbs_eq_nil.1 e))
    cases hmv
    (iterate 6 ((repeat with_reducible first|refine .nil ?_|refine .then_normal ?_|refine .block_normal ?_|refine .seq ?_|refine .block ?_|refine .skip ?_|refine .region ?_|refine .ret ?_|refine .then_ret ?_|refine .block_ret ?_|refine .exit ?_|refine .then_exit ?_|refine .block_exit ?_|refine .block_other rfl ?_); try refine .run TBok 99 rfl ?_))
    refine StL.step rfl rfl rfl (OpR.call fn_integer_divideByLimb rfl (divideByLimb_spec w4 g 0 mc4 1000000000 [] D _ hbm rfl hm4.2 (by omega) (by decide) (by decide))) ?_
    rintro _ w5 ⟨rfl, hu5, us, husl, huslim, husv, hb5⟩
    rw [val_limbs] at husv ⊢
    have hx5 := hx4.then_upd hu5 hg
    have hO5 : SlO w.heap.size w5 (.slice (some ⟨g, 0, none⟩) (limbs (N / 10 ^ k)).length mc4) us := SlO.closed hb5 huslim husl.symm hg (by omega) hmm
    have ht5 : Own w.heap.size 5 w5 tv4 ((pad k N).map u8) := Own.updT ht4 hu5 hbm (by decide)
    have hbb5 : Blk 24 w5 w.heap.size [.bool neg, .slice p xs.length cap] := by
      refine hb4.upd hu5 ?_
      intro e; subst e
      unfold Blk at hb4 hbm
      rw [hb4] at hbm
      simp at hbm
    (iterate 6 ((repeat with_reducible first|refine .nil ?_|refine .then_normal ?_|refine .block_normal ?_|refine .seq ?_|refine .block ?_|refine .skip ?_|refine .region ?_|refine .ret ?_|refine .then_ret ?_|refine .block_ret ?_|refine .exit ?_|refine .then_exit ?_|refine .block_exit ?_|refine .block_other rfl ?_); try refine .run TBok 99 rfl ?_))
    rw [← husl] at hO5 ⊢
    refine StL.step rfl rfl rfl (OpR.call fn_integer_trim rfl (trim_spec w5 _ _ hO5.sl (by omega))) ?_
    rintro _ w5 ⟨rfl, rfl, _⟩
    have hm5 := hO5.trimmed
    rw [husv] at hm5 ⊢
    rw [Nat.div_div_eq_div_mul, show 10 ^ k * 1000000000 = 10 ^ (k + 9) from by rw [Nat.pow_add]] at hm5 ⊢
    generalize hmv5 : cutTo (.slice (some ⟨g, 0, none⟩) us.length mc4) (limbs (N / 10 ^ (k + 9))).length = mv5 at hm5
    (iterate 6 ((repeat with_reducible first|refine .nil ?_|refine .then_normal ?_|refine .block_normal ?_|refine .seq ?_|refine .block ?_|refine .skip ?_|refine .region ?_|refine .ret ?_|refine .then_ret ?_|refine .block_ret ?_|refine .exit ?_|refine .then_exit ?_|refine .block_exit ?_|refine .block_other rfl ?_); try refine .run TBok 99 rfl ?_))
    refine St.loop (fun q : Value × Nat => [(1, .pointer (some ⟨w.heap.size, 0, none⟩)), (3, mv5), (4, q.1), (5, .int .u32 ((N / 10 ^ k % 1000000000 / 10 ^ q.2 : Nat) : Int)), (20, .int .i64 q.2)])
      (fun q w' => Ext w w' ∧ SlO w.heap.size w' mv5 (limbs (N / 10 ^ (k + 9))) ∧ Own w.heap.size 5 w' q.1 ((pad (k + q.2) N).map u8) ∧ Blk 24 w' w.heap.size [.bool neg, .slice p xs.length cap] ∧ q.2 ≤ 9)
      (fun q => 9 - q.2) (tv4, 0) ⟨rfl, rfl, rfl, ?_, rfl, trivial⟩ ⟨hx5, hm5, ht5, hbb5, by omega⟩ ?_
    · show some (Value.int .u32 ((N / 10 ^ k % 1000000000 : Nat) : Int)) = _
      simp
    rintro ⟨tv6, i⟩ w6 ⟨hx6, hm6, ht6, hb6, hi⟩
    dsimp only at hx6 hm6 ht6 hb6 hi ⊢
    by_cases hi9 : i < 9
    · (repeat with_reducible first|refine .nil ?_|refine .then_normal ?_|refine .block_normal ?_|refine .seq ?_|refine .block ?_|refine .skip ?_|refine .region ?_|refine .ret ?_|refine .then_ret ?_|refine .block_ret ?_|refine .exit ?_|refine .then_exit ?_|refine .block_exit ?_|refine .block_other rfl ?_)
      refine StL.as TBok 1 (.bool true) rfl (bool_true (by omega)) ?_
      (repeat with_reducible first|refine .nil ?_|refine .then_normal ?_|refine .block_normal ?_|refine .seq ?_|refine .block ?_|refine .skip ?_|refine .region ?_|refine .ret ?_|refine .then_ret ?_|refine .block_ret ?_|refine .exit ?_|refine .then_exit ?_|refine .block_exit ?_|refine .block_other rfl ?_)
      refine St.condT rfl rfl ?_
      (iterate 6 ((repeat with_reducible first|refine .nil ?_|refine .then_normal ?_|refine .block_normal ?_|refine .seq ?_|refine .block ?_|refine .skip ?_|refine .region ?_|refine .ret ?_|refine .then_ret ?_|refine .block_ret ?_|refine .exit ?_|refine .then_exit ?_|refine .block_exit ?_|refine .block_other rfl ?_); try refine .run TBok 99 rfl ?_))
      have hrest : N / 10 ^ k % 1000000000 / 10 ^ i < 4294967296 := by
        refine Nat.lt_of_le_of_lt (Nat.div_le_self _ _) ?_
        omega
      have hdig : N / 10 ^ k % 1000000000 / 10 ^ i % 10 = N / 10 ^ (k + i) % 10 := by
        have h9 : (1000000000 : Nat) = 10 ^ i * 10 ^ (9 - i) := by rw [← Nat.pow_add, show i + (9 - i) = 9 from by omega]
        rw [h9, Nat.mod_mul_right_div_self, Nat.div_div_eq_div_mul, ← Nat.pow_add, show 9 - i = (8 - i) + 1 from by omega, Nat.pow_succ, Nat.mul_comm (10 ^ (8 - i)) 10, Nat.mod_mul_right_mod]
      have hnext : N / 10 ^ k % 1000000000 / 10 ^ i / 10 = N / 10 ^ k % 1000000000 / 10 ^ (i + 1) := by
        rw [Nat.div_div_eq_div_mul, Nat.pow_succ]
      generalize N / 10 ^ k % 1000000000 / 10 ^ i = rest at hrest hdig hnext ⊢
      refine StL.step rfl rfl rfl (RunsTo.rem rfl rfl (by omega) (by decide)).op ?_
      rintro _ _ ⟨rfl, rfl⟩
      have e2 : IntKind.u8.wrap (IntKind.u32.wrap (48 + (rest : Int) % 10)) = ((48 + N / 10 ^ (k + i) % 10 : Nat) : Int) := by
        rw [← hdig]
        simp only [wrap_u32, wrap_u8]
        omega
      refine .run TBok 99 rfl ?_
      refine StL.push8 (48 + N / 10 ^ (k + i) % 10) rfl e2 (fun _ => rfl) ht6 (by rw [pad_length]; omega) hx6 (Nat.le_refl _) hx6.size rfl rfl ?_
      intro p2 v' w7 wm hxm htm hgr ho7 hx7
      rw [← pad_succ, Nat.add_assoc] at ho7
      have hm7 : SlO w.heap.size w7 mv5 (limbs (N / 10 ^ (k + 9))) := ⟨Own.grownT (hm6.ext hxm).1 htm (by decide) hgr, hm6.2⟩
      have hb7 := Blk.grownT (hb6.ext hxm) htm (by decide) hgr
      (iterate 6 ((repeat with_reducible first|refine .nil ?_|refine .then_normal ?_|refine .block_normal ?_|refine .seq ?_|refine .block ?_|refine .skip ?_|refine .region ?_|refine .ret ?_|refine .then_ret ?_|refine .block_ret ?_|refine .exit ?_|refine .then_exit ?_|refine .block_exit ?_|refine .block_other rfl ?_); try refine .run TBok 99 rfl ?_))
      refine StL.step rfl rfl rfl (RunsTo.quo rfl rfl (by omega) (by decide)).op ?_
      rintro _ _ ⟨rfl, rfl⟩
      (iterate 6 ((repeat with_reducible first|refine .nil ?_|refine .then_normal ?_|refine .block_normal ?_|refine .seq ?_|refine .block ?_|refine .skip ?_|refine .region ?_|refine .ret ?_|refine .then_ret ?_|refine .block_ret ?_|refine .exit ?_|refine .then_exit ?_|refine .block_exit ?_|refine .block_other rfl ?_); try refine .run TBok 99 rfl ?_))
      refine Out.again (v', i + 1) ⟨rfl, rfl, rfl, ?_, ?_, trivial⟩ ⟨hx7, hm7, ho7, hb7, by dsimp only; omega⟩ (by dsimp only; omega)
      · show some (Value.int .u32 (IntKind.u32.wrap ((rest : Int) / 10))) = _
        rw [← hnext, wrap_u32]
        congr 2
        omega
      · show some (Value.int .i64 (IntKind.i64.wrap ((i : Int) + 1))) = _
        rw [i64_id (by omega) (by omega)]; rfl
    · have hi' : i = 9 := by omega
      subst hi'
      (repeat with_reducible first|refine .nil ?_|refine .then_normal ?_|refine .block_normal ?_|refine .seq ?_|refine .block ?_|refine .skip ?_|refine .region ?_|refine .ret ?_|refine .then_ret ?_|refine .block_ret ?_|refine .exit ?_|refine .then_exit ?_|refine .block_exit ?_|refine .block_other rfl ?_)
      refine StL.as TBok 1 (.bool false) rfl (bool_false (by omega)) ?_
      (repeat with_reducible first|refine .nil ?_|refine .then_normal ?_|refine .block_normal ?_|refine .seq ?_|refine .block ?_|refine .skip ?_|refine .region ?_|refine .ret ?_|refine .then_ret ?_|refine .block_ret ?_|refine .exit ?_|refine .then_exit ?_|refine .block_exit ?_|refine .block_other rfl ?_)
      refine St.condF rfl rfl ?_
      (iterate 6 ((repeat with_reducible first|refine .nil ?_|refine .then_normal ?_|refine .block_normal ?_|refine .seq ?_|refine .block ?_|refine .skip ?_|refine .region ?_|refine .ret ?_|refine .then_ret ?_|refine .block_ret ?_|refine .exit ?_|refine .then_exit ?_|refine .block_exit ?_|refine .block_other rfl ?_); try refine .run TBok 99 rfl ?_))
      refine Out.again (mv5, tv6, k + 9) ⟨rfl, rfl, rfl, trivial⟩ ⟨hx6, hm6, ht6, hb6, by dsimp only; omega⟩ ?_
      show N / 10 ^ (k + 9) < N / 10 ^ k
      rw [Nat.pow_add, ← Nat.div_div_eq_div_mul]
      exact Nat.div_lt_self (by omega) (by decide)

end Go.Qf
