/- The folding of an account in plain lists: deeds in order of days. -/
import Derived.Test.YtkbpdbfldijeeaaDoorStP
import Derived.Test.YtkbpdbfldijeeaaDoorBk
import Derived.Test.YtkbpdbfldijeeaaDoorMv
namespace Go.Proofs.YtkbpdbfldijeeaaDoor

inductive Op where
  | turn
  | lose
  | move (gr tk : Int)
def Op.act (ca ex : Int) : Op → Fo → Fo
  | .turn, s => turnV ca ex s
  | .lose, s => loseV s
  | .move gr tk, s => moveV gr tk s
def Op.fine : Op → Prop
  | .turn => True
  | .lose => True
  | .move gr tk => 0 ≤ gr ∧ gr ≤ 1000000 ∧ 0 ≤ tk ∧ tk ≤ 1000000
theorem Inv.act {n : Nat} {s : Fo} {ca ex : Int} (h : Inv n s) (h0 : 0 ≤ ca) (o : Op) (hf : o.fine) : Inv (n + 1) (o.act ca ex s) := by
  cases o with
  | turn => exact (h.turn h0).more (by omega)
  | lose => exact h.lose.more (by omega)
  | move gr tk => exact h.move hf.1 hf.2.1 hf.2.2.1 hf.2.2.2

def yearOps (ex y : Int) : List (Int × Op) := (Cal.st y - 25567, .turn) :: (if 0 < ex ∧ ex < 12 then [(Cal.st y + Cal.cum y (ex + 1) - 25567, .lose)] else [])
def yearsOps (ex yr : Int) (k : Nat) : List (Int × Op) := (List.range k).flatMap fun (i : Nat) => yearOps ex (yr + 1 + (i : Int))
def moveOps (l : List Mv) : List (Int × Op) := l.map fun x => (x.1, .move x.2.1 x.2.2)
def ltO (a b : Int × Op) : Bool := decide (a.1 < b.1)
def allOps (ex yr : Int) (l : List Mv) : List (Int × Op) := ss ltO (yearsOps ex yr (2199 - yr).toNat ++ moveOps l)
def stepO (ca ex un : Int) (s : Fo) (x : Int × Op) : Fo := if x.1 ≤ un then x.2.act ca ex s else s
def runO (ca ex un : Int) (L : List (Int × Op)) (s : Fo) : Fo := L.foldl (stepO ca ex un) s
def fo0 : Fo := ⟨0, 0, 0, 0, 0, 0⟩
/-- What comes of moves up to a day, all but 'left'. -/
def foldF (yr ca ex un : Int) (l : List Mv) : Fo := runO ca ex un (allOps ex yr l) fo0
/-- The account: granted, taken, expired, left. -/
def foldV (yr ca ex un : Int) (l : List Mv) : Int × Int × Int × Int :=
  ((foldF yr ca ex un l).g, (foldF yr ca ex un l).t, (foldF yr ca ex un l).e, (foldF yr ca ex un l).fr + (foldF yr ca ex un l).cr)
theorem inv0 : Inv 0 fo0 := by constructor <;> simp [fo0]
theorem Inv.step {n : Nat} {s : Fo} {ca ex un : Int} (h : Inv n s) (h0 : 0 ≤ ca) (x : Int × Op) (hf : x.2.fine) : Inv (n + 1) (stepO ca ex un s x) := by
  unfold stepO
  split
  · exact h.act h0 _ hf
  · exact h.more (by omega)
theorem inv_run {ca ex un : Int} (h0 : 0 ≤ ca) : ∀ (L : List (Int × Op)) (n : Nat) (s : Fo), Inv n s → (∀ x ∈ L, x.2.fine) → Inv (n + L.length) (runO ca ex un L s) := by
  intro L
  induction L with
  | nil => intro n s h _; exact h
  | cons x L ih =>
    intro n s h hf
    have := ih (n + 1) (stepO ca ex un s x) (h.step h0 x (hf x (by simp))) (fun y hy => hf y (by simp [hy]))
    rw [List.length_cons, show n + (L.length + 1) = n + 1 + L.length by omega]
    exact this
theorem runO_snoc (ca ex un : Int) (L : List (Int × Op)) (x : Int × Op) (s : Fo) : runO ca ex un (L ++ [x]) s = stepO ca ex un (runO ca ex un L s) x := by simp [runO]

/-- The stable sort of what is mapped. -/
theorem mg_map {α β : Type} {lt : α → α → Bool} {lt' : β → β → Bool} (f : α → β) (h : ∀ x y, lt' (f x) (f y) = lt x y) : ∀ l r : List α, mg lt' (l.map f) (r.map f) = (mg lt l r).map f
  | [], r => by simp
  | a :: l, [] => by simp
  | a :: l, b :: r => by
    have h1 := mg_map f h (a :: l) r
    have h2 := mg_map f h l (b :: r)
    simp only [List.map_cons] at h1 h2 ⊢
    rw [mg_cons, mg_cons, h]
    split
    · rw [h1]; rfl
    · rw [h2]; rfl
termination_by l r => l.length + r.length
theorem ss_map {α β : Type} {lt : α → α → Bool} {lt' : β → β → Bool} (f : α → β) (h : ∀ x y, lt' (f x) (f y) = lt x y) : ∀ l : List α, ss lt' (l.map f) = (ss lt l).map f
  | [] => rfl
  | x :: l => by
    show mg lt' [f x] (ss lt' (l.map f)) = (mg lt [x] (ss lt l)).map f
    rw [ss_map f h l, ← mg_map f h]; rfl
theorem yearsOps_len (ex yr : Int) (k : Nat) : (yearsOps ex yr k).length ≤ 2 * k := by
  induction k with
  | zero => simp [yearsOps]
  | succ k ih =>
    have : yearsOps ex yr (k + 1) = yearsOps ex yr k ++ yearOps ex (yr + 1 + (k : Int)) := by unfold yearsOps; rw [List.range_succ, List.flatMap_append]; simp
    rw [this, List.length_append]
    have : (yearOps ex (yr + 1 + (k : Int))).length ≤ 2 := by unfold yearOps; split <;> simp
    omega
/-- A deed: its day, what it does, and where its move lies. -/
structure De where
  day : Int
  op : Op
  mb : Nat
def De.o (x : De) : Int × Op := (x.day, x.op)
def ltD (a b : De) : Bool := decide (a.day < b.day)
def yearDe (ex y : Int) : List De := (yearOps ex y).map fun x => ⟨x.1, x.2, 0⟩
def yearsDe (ex yr : Int) (k : Nat) : List De := (yearsOps ex yr k).map fun x => ⟨x.1, x.2, 0⟩
theorem yearsDe_o (ex yr : Int) (k : Nat) : (yearsDe ex yr k).map De.o = yearsOps ex yr k := by
  unfold yearsDe; rw [List.map_map]; exact List.map_id _
theorem allOps_of {ex yr : Int} {l : List Mv} {M : List De} (h : M.map De.o = moveOps l) : (ss ltD (yearsDe ex yr (2199 - yr).toNat ++ M)).map De.o = allOps ex yr l := by
  rw [← ss_map (lt := ltD) (lt' := ltO) De.o (fun x y => rfl), List.map_append, yearsDe_o, h]; rfl
theorem fine_years {ex yr : Int} {k : Nat} : ∀ x ∈ yearsDe ex yr k, x.op = .turn ∨ x.op = .lose := by
  intro x hx
  unfold yearsDe yearsOps at hx
  rw [List.mem_map] at hx
  obtain ⟨y, hy, rfl⟩ := hx
  rw [List.mem_flatMap] at hy
  obtain ⟨i, _, hi⟩ := hy
  unfold yearOps at hi
  rcases List.mem_cons.1 hi with rfl | hi
  · exact .inl rfl
  · split at hi
    · rw [List.mem_singleton] at hi; subst hi; exact .inr rfl
    · cases hi
end Go.Proofs.YtkbpdbfldijeeaaDoor
