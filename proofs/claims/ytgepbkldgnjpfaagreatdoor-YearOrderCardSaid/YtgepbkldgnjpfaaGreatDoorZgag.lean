/- Out of: Yp1 Yp2. -/
import Derived.Test.YtgepbkldgnjpfaaGreatDoorZgae
/- Months cut: the slice expressions. -/
namespace Go.Proofs.YtgepbkldgnjpfaaGreatDoor
open Go.RowKit Go.Sort Go.BigFrame

/-- Where the rest of a row of months begins. -/
def cutA (A : Option Addr) (k cap : Nat) : Option Addr := match A with
  | none => none
  | some a => some (if cap = k then a else a.add (k * 12))
theorem run_cutHi {s t : Nat} {o : Oper} {a : Act} {w : World} {A : Option Addr} {len cap k : Nat} (hop : o.op = .slice 22 (.tmp s) (some (.tmp t)) none none) (hs : a.eval (.tmp s) = .slice A len cap) (ht : a.eval (.tmp t) = .int .i64 k) (hk : k ≤ len) (hlc : len ≤ cap) (hc : cap ≤ 9223372036854775807) (hA : A = none → cap = 0) :
    (execOp a.eval o).run Tryz.prog w = .ok (.value (.slice (cutA A k cap) (len - k) (cap - k))) w := by
  have h1 : (k : Int) ≤ len := by omega
  have h2 : (len : Int) ≤ cap := by omega
  have h3 : (cap : Int) ≤ 9223372036854775807 := by omega
  unfold execOp
  simp only [hop, hs, ht, Option.map_some, Option.map_none]
  cases A with
  | none =>
    obtain rfl : cap = 0 := hA rfl
    obtain rfl : len = 0 := by omega
    obtain rfl : k = 0 := by omega
    unfold cutA
    go_simp
  | some a =>
    unfold cutA
    go_simp
    split <;> rfl
theorem run_cutLo {s t : Nat} {o : Oper} {a : Act} {w : World} {A : Option Addr} {len cap k : Nat} (hop : o.op = .slice 22 (.tmp s) none (some (.tmp t)) none) (hs : a.eval (.tmp s) = .slice A len cap) (ht : a.eval (.tmp t) = .int .i64 k) (hk : k ≤ len) (hlc : len ≤ cap) (hc : cap ≤ 9223372036854775807) (hA : A = none → cap = 0) :
    (execOp a.eval o).run Tryz.prog w = .ok (.value (.slice A k cap)) w := by
  have h1 : (k : Int) ≤ len := by omega
  have h2 : (len : Int) ≤ cap := by omega
  have h3 : (cap : Int) ≤ 9223372036854775807 := by omega
  unfold execOp
  simp only [hop, hs, ht, Option.map_some, Option.map_none]
  cases A with
  | none =>
    obtain rfl : cap = 0 := hA rfl
    obtain rfl : len = 0 := by omega
    obtain rfl : k = 0 := by omega
    go_simp
  | some a =>
    go_simp
    exact fun h => absurd h (by omega)
end Go.Proofs.YtgepbkldgnjpfaaGreatDoor

/- Folds as slots of a drawn region; a row of months, cut. -/
namespace Go.Proofs.YtgepbkldgnjpfaaGreatDoor
open Go.RowKit Go.Sort Go.BigFrame

/-- Slips' value. -/
def SlsV (B : Nat) (l : List Slp) (v : Value) (w : World) : Prop := ∃ A c ls, v = .slice A ls.length c ∧ ls.map Prod.fst = l ∧ OwnSl B (.slice A ls.length c) ls w
theorem SlsV.of {B : Nat} {l : List Slp} {v : Value} {ls : List (Slp × (Option Addr × Nat))} {w : World} (h : OwnSl B v ls w) (hl : ls.map Prod.fst = l) : SlsV B l v w := by
  obtain ⟨A, c, rfl, _⟩ := own_Sl encSl_len h.1
  exact ⟨A, c, ls, rfl, hl, h⟩
theorem SlsV.below {B : Nat} {l : List Slp} {v : Value} {w w' : World} (h : SlsV B l v w) (hb : Below w.heap.size w w') : SlsV B l v w' := by
  obtain ⟨A, c, ls, h1, h2, h3⟩ := h
  exact ⟨A, c, ls, h1, h2, h3.below hb⟩
theorem SlsV.kepT {B : Nat} {l : List Slp} {v : Value} {w w' : World} (h : SlsV B l v w) {b : Nat} {y : Array Value} (hb : Bk b 33 y w) (hk : Kep b b w w') : SlsV B l v w' := by
  obtain ⟨A, c, ls, h1, h2, h3⟩ := h
  exact ⟨A, c, ls, h1, h2, h3.kepT hb hk⟩
def spSls (B : Nat) (l : List Slp) : Sp := ⟨SlsV B l, fun _ _ _ h hb => h.below hb⟩
def spRes (B n : Nat) (sl : List Slp) (S : Ste) (e : Int) : Sp := ⟨fun v w => ∃ a b, v = .tuple #[a, b, .int .i64 e] ∧ SlsV B sl a w ∧ StV S n b w, fun v w w' h hb => by
  obtain ⟨a, b, h1, h2, h3⟩ := h
  exact ⟨a, b, h1, h2.below hb, h3.below hb⟩⟩
/-- It stays, too, where a state's block is written. -/
def Kst1 (s : Sp) : Prop := ∀ v w b y w', Bk b 33 y w → Kep b b w w' → s.p v w → s.p v w'
theorem kst1_of {s : Sp} (h : Kst s) : Kst1 s := fun v w b y w' hb hk hs => h v w b _ y w' (.inl rfl) hb hk hs
theorem kst1_sls (B : Nat) (l : List Slp) : Kst1 (spSls B l) := fun _ _ _ _ _ hb hk h => SlsV.kepT h hb hk
theorem kst1_res (B n : Nat) (sl : List Slp) (S : Ste) (e : Int) : Kst1 (spRes B n sl S e) := fun _ _ _ _ _ hb hk h => by
  obtain ⟨a, b, h1, h2, h3⟩ := h
  exact ⟨a, b, h1, h2.kepT hb hk, h3.kepT hb hk⟩
theorem sps_kst1 {tbl : List (Nat × Sp)} (h : ∀ p ∈ tbl, Kst1 p.2) {t : Nat} {v : Value} {w w' : World} {b : Nat} {y : Array Value} (hb : Bk b 33 y w) (hk : Kep b b w w') (hs : SPS tbl t v w) : SPS tbl t v w' := fun s he => by
  have hm : (t, s) ∈ tbl := by
    clear h hs
    induction tbl with
    | nil => cases he
    | cons q r ih =>
      obtain ⟨u, z⟩ := q
      rw [List.lookup_cons] at he
      by_cases hu : t = u
      · subst hu
        simp at he
        subst he
        exact List.mem_cons_self ..
      · have e : (t == u) = false := beq_eq_false_iff_ne.2 hu
        rw [e] at he
        exact List.mem_cons_of_mem _ (ih he)
  exact h (t, s) hm _ _ _ _ _ hb hk (hs s he)
theorem SlMo.take {w : World} {A : Option Addr} {l : List (Mon × MoA)} (h : SlMo w A l) (k : Nat) : SlMo w A (l.take k) := ⟨fun hl => by
  obtain ⟨b, off, h1, h2, h3⟩ := h.1 (fun e => hl (by rw [e]; simp))
  exact ⟨b, off, h1, h2, fun i x hx => h3 i x (by
    rw [List.getElem?_take] at hx
    split at hx
    · exact hx
    · cases hx)⟩, fun p hp => h.2 p (List.mem_of_mem_take hp)⟩
theorem SlMo.drop {w : World} {A : Option Addr} {l : List (Mon × MoA)} (h : SlMo w A l) (k cap : Nat) (hlc : l.length ≤ cap) : SlMo w (cutA A k cap) (l.drop k) := ⟨fun hl => by
  obtain ⟨b, off, h1, h2, h3⟩ := h.1 (fun e => hl (by rw [e]; simp))
  have hk : ¬ cap = k := fun e => hl (List.drop_eq_nil_of_le (by omega))
  subst h1
  refine ⟨b, off + k * 12, ?_, h2, fun i x hx j u hu => ?_⟩
  · unfold cutA
    simp only
    rw [if_neg hk]
    simp [Addr.add]
  · rw [List.getElem?_drop] at hx
    have h4 := h3 (k + i) x hx j u hu
    rw [show off + k * 12 + i * 12 + j = off + (k + i) * 12 + j by omega]
    exact h4, fun p hp => h.2 p (List.mem_of_mem_drop hp)⟩
/-- Resume, as a slot's value. -/
theorem yr_ResumeV (S : Ste) (V : StA) (l : List (Mon × MoA)) (A : Option Addr) (cap n0 : Nat) (w : World) (hS : StOk S V n0 w) (hn : n0 ≤ 800000000) (hl : l.length ≤ 1000000) (hs : SlMo w A l) (hT : Tb w) (B : Nat) (hB : B ≤ w.heap.size) {sl : List Slp} {S2 : Ste} {e2 : Int} (hq : resM S (l.map Prod.fst) = (sl, S2, e2)) :
    Calls Tryz.prog 20 #[stV S V, .slice A l.length cap] w fun e w' => ∃ v, e = .returned v ∧ Below w.heap.size w w' ∧ (spRes B (n0 + 1572864) sl S2 e2).p v w' := by
  refine (yr_Resume S V l A cap n0 w hS hn hl hs hT).mono fun e w' ⟨V2, v, ls, h0, h1, h2, h3, h4⟩ => ?_
  rw [hq] at h0 h1 h3
  exact ⟨_, h0, h4, _, _, rfl, SlsV.of (h2.low hB) h1, StV.of h3⟩
theorem resGo_StB2 {S : Ste} {n : Nat} (h : StB n S) (l : List Mon) (hl : l.length ≤ 4096) : StB (n + 1572864) (resM S l).2.1 := by
  unfold resM
  rw [if_neg (by omega)]
  exact (resGo_StB S l S [] n h h).mono (by omega)
end Go.Proofs.YtgepbkldgnjpfaaGreatDoor
