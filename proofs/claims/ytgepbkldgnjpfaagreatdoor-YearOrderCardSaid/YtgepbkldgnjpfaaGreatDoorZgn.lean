/- Out of: Tool. -/
import Derived.Deep.RegionHeld3
import Derived.OwnWalkIn
import Derived.RangeFuncNested
import Derived.RegionIn
import Derived.StillTail
import Derived.StillTailTactics
import Derived.TacticsInMore
import Derived.WalkKit
/- A region that draws its order, of reads and one row of stores, inside the round of a loop over a function. -/
namespace Go.Proofs.YtgepbkldgnjpfaaGreatDoor
open Go.RowKit

section
variable {F : Fence} {n : Nat} {P : Program} {ops : Array Oper} {md : Region.Mode} {w : World}

/-- An operation that only moves, reads, reckons or stores. -/
def calmB (o : Oper) : Bool :=
  match o.op with
  | .move _ | .assign _ | .pick _ _ _ | .load _ _ | .store _ _ _ | .binOp _ _ _ _ _ | .unOp _ _ _ | .indexAddr _ _ _ | .fieldAddr _ _ _ | .convert _ _ _ => true
  | _ => false

theorem ok_value {s : Sem Value} {x : Next} {w w' : World} (h : (do pure (Next.value (← s)) : Sem Next).run P w = .ok x w') : ∃ v, x = .value v := by
  simp only [Sem.run_bind] at h
  cases hs : s.run P w with
  | ok v w1 => rw [hs] at h; simp at h; exact ⟨v, h.1.symm⟩
  | halt e w1 => rw [hs] at h; simp at h
theorem ok_skip {s : Sem Unit} {x : Next} {w w' : World} (h : (do s; pure Next.skip : Sem Next).run P w = .ok x w') : x = .skip := by
  simp only [Sem.run_bind] at h
  cases hs : s.run P w with
  | ok v w1 => rw [hs] at h; simp at h; exact h.1.symm
  | halt e w1 => rw [hs] at h; simp at h

theorem calm_run {o : Oper} (hc : calmB o = true) {ρ : Operand → Value} {x : Next} {w w' : World} (h : (execOp ρ o).run P w = .ok x w') : (∃ v, x = .value v) ∨ x = .skip := by
  unfold calmB at hc
  unfold execOp at h
  cases ho : o.op <;> rw [ho] at hc h <;> dsimp only at hc h <;> first
    | exact absurd hc Bool.false_ne_true
    | exact .inl (ok_value h)
    | exact .inr (ok_skip h)
    | (rw [Sem.run_pure] at h; cases h; exact .inl ⟨_, rfl⟩)
    | (simp only [Sem.run_bind, Sem.run_pure] at h
       generalize (asBool _).run P w = r at h
       cases r with
       | ok b w1 => simp at h; exact .inl ⟨_, h.1.symm⟩
       | halt e w1 => simp at h)
theorem calm_about {o : Oper} (hc : calmB o = true) (w : World) (ρ : Operand → Value) : o.about P w ρ = none := by
  unfold calmB at hc
  unfold Oper.about
  cases ho : o.op <;> simp only [ho] at hc ⊢
  cases hc
theorem calm_sem {o : Oper} (hc : calmB o = true) (r : Option Nat) (ρ : Operand → Value) : o.semAt r ρ = execOp ρ o :=
  Oper.semAt_eq r ρ o (fun c h => by unfold calmB at hc; rw [h] at hc; cases hc)

theorem wpIn_of_still {o : Oper} (hc : calmB o = true) {a : Act} {K : Act → Prop} {K' : Act → World → Prop} {Q' : Exit → Act → World → Prop} (h : ∀ a, K a → K' a w) (hh : o.still P a w K) : o.wpIn F n P a w K' Q' := by
  refine ⟨fun f hf => (by rw [calm_about hc] at hf; cases hf), ?_⟩
  rw [calm_sem hc]
  unfold Oper.still at hh
  cases hr : (execOp a.eval o).run P w with
  | ok x w' =>
    rw [hr] at hh
    rcases calm_run hc hr with ⟨v, rfl⟩ | rfl
    · obtain ⟨rfl, h2⟩ := hh
      exact h _ h2
    · obtain ⟨rfl, h2⟩ := hh
      exact h _ h2
  | halt x w' => rw [hr] at hh; simp only [Oper.stillUpon] at hh

theorem wpOpIn_of_stOp (hcalm : ∀ (j : Nat) (o : Oper), ops[j]? = some o → calmB o = true) {i : Nat} {a : Act} {K : Act → Prop} {K' : Act → World → Prop} {Q' : Exit → Act → World → Prop} (h : ∀ a, K a → K' a w) (hh : stOp P ops w i K a) : wpOpIn F n P ops Q' i K' a w := by
  unfold stOp at hh
  unfold wpOpIn
  split
  · rename_i ho; simp only [ho] at hh; exact h _ hh
  · rename_i o ho
    simp only [ho] at hh
    split
    · rename_i hw; simp only [hw, if_true] at hh; exact wpIn_of_still (hcalm _ _ ho) h hh
    · rename_i hw; simp only [hw] at hh; exact ⟨fun f hf => (by rw [calm_about (hcalm _ _ ho)] at hf; cases hf), h _ hh⟩

theorem wpAnyIn_of_head (hcalm : ∀ (j : Nat) (o : Oper), ops[j]? = some o → calmB o = true) {m g : Nat} {L : Array Bool → Act → Prop} {Q' : Exit → Act → World → Prop} (hL : ∀ listed a, L listed a → wpAnyIn F n P md ops Q' g listed a w) :
    ∀ (f : Nat) (listed : Array Bool) (a : Act), wpAnyL P md ops w m L f listed a → wpAnyIn F n P md ops Q' (f + g) listed a w
  | 0, listed, a, h => by rw [Nat.zero_add]; exact hL _ _ h
  | f + 1, listed, a, h => by
    rw [show f + 1 + g = (f + g) + 1 by omega]
    exact ⟨fun h0 => absurd h0 h.1, fun i hi => wpOpIn_of_stOp hcalm (fun a' h' => wpAnyIn_of_head hcalm hL f _ a' h') (h.2 i hi).2⟩

theorem wpAnyIn_of_seq {Q' : Exit → Act → World → Prop} : ∀ (l : List Oper) (k : Nat) (listed : Array Bool) (a : Act) (w : World), (∀ j, l[j]? = ops[k + j]?) →
    Region.seqB md ops l.length k listed = true → wpListIn F n P ops Q' l a w → wpAnyIn F n P md ops Q' l.length listed a w
  | [], _, _, _, _, _, hB, h => ⟨by simpa [Region.seqB] using hB, h⟩
  | o :: l, k, listed, a, w, hl, hB, h => by
    have h0 : ops[k]? = some o := by simpa using (hl 0).symm
    simp only [List.length_cons, Region.seqB, Bool.and_eq_true, decide_eq_true_eq] at hB
    refine ⟨fun h1 => (by rw [hB.1] at h1; cases h1), fun i hi => ?_⟩
    rw [hB.1] at hi
    have hik : i = k := by simpa using hi
    subst hik
    have hw : wpOpIn F n P ops Q' i (wpListIn F n P ops Q' l) a w := by unfold wpOpIn; simp only [h0]; exact h
    exact wpOpIn_mono (fun a' w' h' => wpAnyIn_of_seq l (i + 1) _ a' w' (fun j => by have := hl (j + 1); simpa [Nat.add_assoc, Nat.add_comm 1 j] using this) hB.2 h') hw

/-- One walk serves every order: the reads in the order of the text, then the stores. -/
theorem wpIn_region_still_tail {id : Nat} {Q : Exit → Act → World → Prop} {a : Act} {w : World} {l : List Oper} (m : Nat) (hm : P.follows .mixedOrders = true) (hcalm : l.all calmB = true) (hB : Region.lexTailB .any l.toArray m = true)
    (h : wpStill P l.toArray w.drew (fun a' => wpListIn F n P l.toArray Q (l.drop m) a' w.drew) (l.take m) a) : (Code.region id l.toArray true).wpIn F n P Q a w := by
  change wpStill P l.toArray { w with drawn := w.drawn + 1 } (fun a' => wpListIn F n P l.toArray Q (l.drop m) a' { w with drawn := w.drawn + 1 }) (l.take m) a at h
  have hc : ∀ (j : Nat) (o : Oper), l.toArray[j]? = some o → calmB o = true := fun j o h => List.all_eq_true.1 hcalm o (List.mem_of_getElem? (i := j) (by simpa using h))
  simp only [Region.lexTailB, Bool.and_eq_true, decide_eq_true_eq] at hB
  obtain ⟨⟨⟨⟨hsel, hn⟩, hs⟩, hcn⟩, hlex⟩ := hB
  have hn' : m < l.length := by simpa using hn
  have htl : (l.take m).length = m := by simp; omega
  have hdl : (l.drop m).length = l.toArray.size - m := by simp
  have inv0 : HeadInv .any l.toArray m (Array.replicate l.toArray.size false) :=
    ⟨by simp, fun j oj _ hl => (by rw [getD_replicate_false] at hl; cases hl), fun t _ ht => getD_in (by simpa using ht) (getD_replicate_false _ _)⟩
  have H := wpAnyL_lex (md := .any) (g := l.toArray.size - m) hsel hs hcn hn (l.take m) 0 _ a (fun j hj => by
    have hj' : j < m := by rw [htl] at hj; exact hj
    simp [hj']) (by simpa using htl) inv0 (by rw [htl]; exact hlex) h
  refine wpIn_region_any hm ?_
  have := wpAnyIn_of_head (F := F) (n := n) hc (Q' := Q) (g := l.toArray.size - m) (fun listed a' hL => by
    have := wpAnyIn_of_seq (F := F) (n := n) (md := .any) (Q' := Q) (l.drop m) m listed a' { w with drawn := w.drawn + 1 } (fun j => by simp [List.getElem?_drop]) (by rw [hdl]; exact hL.1) hL.2
    rwa [hdl] at this) _ _ _ H
  rw [htl, show m + (l.toArray.size - m) = l.toArray.size by omega] at this
  exact this

theorem wpAnyIn_of_any (hcalm : ∀ (j : Nat) (o : Oper), ops[j]? = some o → calmB o = true) {Q : Exit → Act → World → Prop} (hno : ¬ LetsOut Q) :
    ∀ (fuel : Nat) (listed : Array Bool) (a : Act) (w : World), wpAny P md ops Q fuel listed a w → wpAnyIn F n P md ops Q fuel listed a w
  | 0, _, _, _, h => h
  | fuel + 1, listed, a, w, h => ⟨h.1, fun i hi => by
      have h2 := h.2 i hi
      unfold wpOp at h2
      unfold wpOpIn
      cases ho : ops[i]? with
      | none => rw [ho] at h2; exact wpAnyIn_of_any hcalm hno fuel _ _ _ h2
      | some o =>
        rw [ho] at h2
        have hc := hcalm i o ho
        have hab : ∀ f, o.about P w a.eval = some f → F.fn f := fun f hf => (by rw [calm_about hc] at hf; cases hf)
        dsimp only at h2 ⊢
        split
        · rename_i hw
          rw [if_pos hw] at h2
          rcases h2 with h2 | ⟨_, h2⟩
          · refine ⟨hab, ?_⟩
            rw [calm_sem hc]
            unfold Oper.wp at h2
            cases hr : (execOp a.eval o).run P w with
            | ok x w' =>
              rw [hr] at h2
              rcases calm_run hc hr with ⟨v, rfl⟩ | rfl
              · exact wpAnyIn_of_any hcalm hno fuel _ _ _ h2
              · exact wpAnyIn_of_any hcalm hno fuel _ _ _ h2
            | halt x w' =>
              rw [hr] at h2
              cases x <;> simp only [Oper.upon] at h2 ⊢
              exact h2
          · exact absurd h2 hno
        · rename_i hw
          rw [if_neg hw] at h2
          exact ⟨hab, wpAnyIn_of_any hcalm hno fuel _ _ _ h2⟩⟩

/-- Whatever order is picked from here on; S holds behind every operation but number L, which waits for those that are taken first. -/
def wpAnyG (P : Program) (md : Region.Mode) (ops : Array Oper) (Q : Exit → Act → World → Prop) (S : World → Prop) (L : Nat) : Nat → Array Bool → Act → World → Prop
  | 0, listed, a, w => Region.ready md ops listed = [] ∧ Q .normal a w
  | fuel + 1, listed, a, w =>
    (Region.ready md ops listed = [] → Q .normal a w) ∧
    ∀ i ∈ Region.ready md ops listed, wpOp P ops Q i (fun a' w' => (i ≠ L → S w') ∧ wpAnyG P md ops Q S L fuel (listed.setIfInBounds i true) a' w') a w
section
variable {Q : Exit → Act → World → Prop} {S : World → Prop} {L : Nat}
theorem wpAny_of_G : ∀ (fuel : Nat) (listed : Array Bool) (a : Act) (w : World), wpAnyG P md ops Q S L fuel listed a w → wpAny P md ops Q fuel listed a w
  | 0, _, _, _, h => h
  | fuel + 1, _, _, _, h => ⟨h.1, fun i hi => wpOp_mono (fun a' w' h' => wpAny_of_G fuel _ a' w' h'.2) (h.2 i hi)⟩

theorem wpAnyG_first {i : Nat} {oi : Oper} {v : Value} (hi : ops[i]? = some oi) (hsel : ∀ (j : Nat) (o : Oper) cs b, ops[j]? = some o → o.op ≠ .select cs b) (hL : Region.waitsFor md ops L i = true)
    (hQ : ∀ c a w, Q (.panic c) (a.put oi.dst v) w → Q (.panic c) a w) :
    ∀ (fuel : Nat) (listed : Array Bool) (a : Act) (w : World),
      (∀ (j : Nat) (oj : Oper), ops[j]? = some oj → j ≠ i → listed.getD j true = false → (∀ e ∈ oj.after, Region.binds md e = true → e.on ≠ i) → oi.apart ops oj = true) →
      i ∈ Region.ready md ops listed → YieldsIf P ops S oi v a → S w →
      wpAnyG P md ops Q S L fuel (listed.setIfInBounds i true) (a.put oi.dst v) w → wpAnyG P md ops Q S L (fuel + 1) listed a w := by
  intro fuel
  induction fuel with
  | zero =>
    intro listed a w _ hr hy hS H
    refine ⟨fun h => (by rw [h] at hr; cases hr), fun j hj => ?_⟩
    by_cases hji : j = i
    · subst hji; exact hy.wpOp hi hS ⟨fun _ => hS, H⟩
    · have := ready_mono hj hji
      rw [H.1] at this
      cases this
  | succ fuel ih =>
    intro listed a w hfree hr hy hS H
    refine ⟨fun h => (by rw [h] at hr; cases hr), fun j hj => ?_⟩
    by_cases hji : j = i
    · subst hji; exact hy.wpOp hi hS ⟨fun _ => hS, H⟩
    · have h1 := H.2 j (ready_mono hj hji)
      obtain ⟨hjun, oj, hoj, hall⟩ := mem_ready.1 hj
      have hnot : ∀ e ∈ oj.after, Region.binds md e = true → e.on ≠ i := fun e he hb heq => by
        have h1 := hall e he hb
        have h0 := (mem_ready.1 hr).1
        rw [heq] at h1
        rcases Nat.lt_or_ge i listed.size with h' | h'
        · simp [h'] at h0 h1; rw [h0] at h1; cases h1
        · simp [Array.getElem?_eq_none h'] at h1
      have hjL : j ≠ L := fun hjl => by
        subst hjl
        obtain ⟨o', ho', e, he, hb, hon⟩ := Region.waitsFor_spec hL
        have : o' = oj := Option.some.inj (ho'.symm.trans hoj)
        subst this
        exact hnot e he hb hon
      have h2 := wpOp_putIf hoj (hfree j oj hoj hji hjun hnot) (fun cs b => hsel i oi cs b hi) (fun cs b => hsel j oj cs b hoj) hQ hy h1
      have hfree' : ∀ (k : Nat) (ok : Oper), ops[k]? = some ok → k ≠ i → (listed.setIfInBounds j true).getD k true = false →
          (∀ e ∈ ok.after, Region.binds md e = true → e.on ≠ i) → oi.apart ops ok = true := fun k ok hk hki hun hno => by
        refine hfree k ok hk hki ?_ hno
        by_cases hjk : j = k
        · subst hjk; exact hjun
        · rw [getD_set_ne true hjk] at hun; exact hun
      refine wpOp_mono (fun a' w' h3 => ⟨h3.2.1, ih (listed.setIfInBounds j true) a' w' hfree' (ready_mono hr (Ne.symm hji)) h3.1 (h3.2.1 hjL) ?_⟩) h2
      rw [Array.setIfInBounds_comm _ _ hji]
      exact h3.2.2

theorem wpAnyG_take {i : Nat} {oi : Oper} {v : Value} {fuel : Nat} {listed : Array Bool} {a : Act} {w : World} (hi : ops[i]? = some oi) (hL : Region.waitsFor md ops L i = true)
    (hs : Region.noSelect ops = true) (hf : Region.free md ops listed i = true) (hr : (Region.ready md ops listed).contains i = true)
    (hQ : ∀ c a w, Q (.panic c) (a.put oi.dst v) w → Q (.panic c) a w) (hy : YieldsIf P ops S oi v a) (hS : S w)
    (h : wpAnyG P md ops Q S L fuel (listed.setIfInBounds i true) (a.put oi.dst v) w) : wpAnyG P md ops Q S L (fuel + 1) listed a w :=
  wpAnyG_first hi (Region.noSelect_spec hs) hL hQ fuel listed a w (Region.free_spec hi hf) (by simpa using hr) hy hS h

/-- One alone may come up. -/
theorem wpAnyG_one {i : Nat} {o : Oper} {fuel : Nat} {listed : Array Bool} {a : Act} {w : World} (hr : Region.ready md ops listed = [i]) (ho : ops[i]? = some o)
    (h : ∀ K' : Act → World → Prop, Shut (∀ a w, (i ≠ L → S w) → (S w ∨ i = L → wpAnyG P md ops Q S L fuel (listed.setIfInBounds i true) a w) → K' a w) → if Region.wanted o (yielded ops a.tmps) = true then Oper.wp P o a w K' Q else K' (a.put o.dst undef) w) :
    wpAnyG P md ops Q S L (fuel + 1) listed a w :=
  ⟨fun h0 => (by rw [hr] at h0; cases h0), fun j hj => by
    rw [hr] at hj
    have hji : j = i := by simpa using hj
    subst hji
    exact wpOp_step ho (fun K' hK => h K' (fun a w hS hW => hK a w ⟨hS, hW (by by_cases e : j = L; exact .inr e; exact .inl (hS e))⟩))⟩

theorem wpAnyG_done {listed : Array Bool} {a : Act} {w : World} (hr : Region.ready md ops listed = []) (h : Q .normal a w) : ∀ fuel, wpAnyG P md ops Q S L fuel listed a w
  | 0 => ⟨hr, h⟩
  | _ + 1 => ⟨fun _ => h, by rw [hr]; simp⟩
end

/-- A region of moves, reads and stores in a round: S is what its reads may lean on; L its last operation. -/
theorem wpIn_region_calm {id : Nat} {Q : Exit → Act → World → Prop} {a : Act} {w : World} {l : List Oper} (S : World → Prop) (L : Nat) (hm : P.follows .mixedOrders = true) (hcalm : l.all calmB = true) (hS : S w.drew)
    (h : S w.drew → wpAnyG P .any l.toArray (fun e a' w' => e = .normal ∧ Q .normal a' w') S L l.length (Array.replicate l.length false) a w.drew) : (Code.region id l.toArray true).wpIn F n P Q a w := by
  have hc : ∀ (j : Nat) (o : Oper), l.toArray[j]? = some o → calmB o = true := fun j o h => List.all_eq_true.1 hcalm o (List.mem_of_getElem? (i := j) (by simpa using h))
  refine wpIn_mono (Q := fun e a' w' => e = .normal ∧ Q .normal a' w') (wpIn_region_any hm ?_) (fun e a w h => h.1 ▸ h.2)
  have hno : ¬ LetsOut (fun e a' w' => e = .normal ∧ Q .normal a' w') := fun ⟨_, _, h, _⟩ => by cases h
  have := wpAnyIn_of_any (F := F) (n := n) hc hno _ _ _ _ (wpAny_of_G _ _ _ _ (h hS))
  simpa using this
end
end Go.Proofs.YtgepbkldgnjpfaaGreatDoor
