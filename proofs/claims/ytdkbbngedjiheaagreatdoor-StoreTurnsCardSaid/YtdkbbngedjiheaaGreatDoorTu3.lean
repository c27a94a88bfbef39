import Derived.Test.YtdkbbngedjiheaaGreatDoorTu2
import Derived.Test.YtdkbbngedjiheaaGreatDoorRgb
import Derived.Test.YtdkbbngedjiheaaGreatDoorUs5
import Derived.Test.YtdkbbngedjiheaaGreatDoorOg
/- StoreTurns' region 17: the row of the persons that are asked for. -/
namespace Go.Proofs.YtdkbbngedjiheaaGreatDoor
open Go.RowKit Go.Sort

structure Pu where
  B : Nat
  fb : Nat
  gb : Nat
  vb : Nat
  n : Nat
  A : Option Addr
  pf : Int
  pg : Int
  Ps : List Int
/-- What a slot holds. -/
def SPu (p : Pu) (t : Nat) (v : Value) (w : World) : Prop := match t with
  | 4 => v = .pointer (some ⟨p.fb, 0, none⟩)
  | 5 => v = .pointer (some ⟨p.gb, 0, none⟩)
  | 14 => v = .pointer (some ⟨p.vb, 0, none⟩)
  | 108 => v = .pointer (some ⟨p.fb, 1, none⟩)
  | 109 => v = .int .u32 p.pf
  | 110 => v = .pointer (some ⟨p.gb, 1, none⟩)
  | 111 => v = .int .u32 p.pg
  | 112 => OwnU p.B v [0, p.pf, p.pg] w
  | 113 => v = .agg #[.slice p.A p.n p.n]
  | 114 => OwnU p.B v p.Ps w
  | 115 => OwnU p.B v ([0, p.pf, p.pg] ++ p.Ps) w
  | 116 => v = .int .i64 (([0, p.pf, p.pg] ++ p.Ps).length : Nat)
  | 117 => v = .int .i64 0
  | _ => True
def klu : Nat → Option Nat
  | 112 => some 7
  | 114 => some 7
  | _ => none
theorem SPu.st (p : Pu) : ∀ t v w w', SPu p t v w → Below w.heap.size w w' → SPu p t v w' := by
  intro t v w w' h hb
  unfold SPu at h
  split at h
  all_goals first
    | exact h
    | exact ownU_below h hb
    | (unfold SPu; split <;> first | trivial | (exfalso; simp_all))
theorem SPu.free (p : Pu) (t : Nat) (v : Value) (w : World) (h : t ∉ [4, 5, 14, 108, 109, 110, 111, 112, 113, 114, 115, 116, 117]) : SPu p t v w := by
  unfold SPu
  split
  all_goals first | trivial | (exfalso; exact h (by simp))
theorem SPu.pure_ (p : Pu) (t : Nat) (v : Value) (w w' : World) (h : t ≠ 112 ∧ t ≠ 114 ∧ t ≠ 115) (hs : SPu p t v w) : SPu p t v w' := by
  unfold SPu at hs
  split at hs
  all_goals first
    | exact hs
    | (exfalso; exact h.1 rfl)
    | (exfalso; exact h.2.1 rfl)
    | (exfalso; exact h.2.2 rfl)
    | (unfold SPu; split <;> first | trivial | (exfalso; simp_all))
theorem own_three {W : World} {B : Nat} {a b c : Int} (hB : B ≤ W.heap.size) : OwnU B (.slice (some ⟨W.heap.size, 0, none⟩) 3 3) [a, b, c] (W.alloc (.cells #[.int .u32 a, .int .u32 b, .int .u32 c] 23)) :=
  ⟨rfl, .inr ⟨W.heap.size, 3, #[.int .u32 a, .int .u32 b, .int .u32 c], rfl, hB, Bk.new _ _ _, Nat.le_refl _, by simp [maxLen], rfl, rfl⟩⟩
theorem build_three {ev : Operand → Value} {o : Oper} {t1 t2 : Nat} {a b : Int} (hop : o.op = .buildSlice 37 3 #[(0, .const (.int .u32 0)), (1, .tmp t1), (2, .tmp t2)]) (e0 : ev (.const (.int .u32 0)) = .int .u32 0) (e1 : ev (.tmp t1) = .int .u32 a) (e2 : ev (.tmp t2) = .int .u32 b) (W : World) :
    (execOp ev o).run Tryz.prog W = .ok (.value (.slice (some ⟨W.heap.size, 0, none⟩) 3 3)) (W.alloc (.cells #[.int .u32 0, .int .u32 a, .int .u32 b] 23)) := by
  unfold execOp
  simp only [hop, List.map_toArray, List.map_cons, List.map_nil, e0, e1, e2]
  go_simp
theorem y_appP {P : Pu} {ops : Array Oper} {w0 : World} {o : Oper} (hop : o.op = .call { callee := .builtin .append, args := #[.tmp 112, .tmp 114], argTypes := #[37, 37] }) (hd : o.dst = some 115) (h1 : waits2 .any ops o 112 = true) (h2 : waits2 .any ops o 114 = true)
    (hB : P.B = w0.heap.size) (hn : P.Ps.length ≤ 10000) : Yields Tryz.prog ops (SPu P) klu w0 7 o 115 := by
  intro a W hb hsp
  have ho : OwnU P.B (a.tmps.getD 112 undef) [0, P.pf, P.pg] W := hsp 112 h1 (.inr rfl)
  have hp : OwnU P.B (a.tmps.getD 114 undef) P.Ps W := hsp 114 h2 (.inr rfl)
  obtain ⟨A, cap, hv, _, hs⟩ := own_sl encU_len hp
  have hsu : SlU W A P.Ps := fun hl => by
    obtain ⟨b, off, e, _, hc⟩ := Sl.one hs hl
    exact ⟨b, off, e, fun i x hx => hc i x _ hx rfl⟩
  obtain ⟨v', W', hr, ho', hg⟩ := run_appU (ty := o.type) (cap := cap) ho hsu (by simp only [List.length_cons, List.length_nil]; omega) (by rw [hB]; exact hb.size)
  have e1 : a.eval (.tmp 112) = a.tmps.getD 112 undef := rfl
  have e2 : a.eval (.tmp 114) = .slice A P.Ps.length cap := hv
  refine ⟨v', W', ?_, belowU hb hb.size (by rw [← hB]; exact ho) hg, fun t hd2 hke hs2 => ?_, ho'⟩
  · unfold execOp
    simp only [hop, resolve, invoke, builtin, Sem.run_bind, Sem.run_pure, Result.andThen_ok, List.map_toArray, List.map_cons, List.map_nil, e1, e2, hr]
  · by_cases e : t ≠ 112 ∧ t ≠ 114 ∧ t ≠ 115
    · exact SPu.pure_ P t _ _ _ e hs2
    · by_cases e24 : t = 112
      · subst e24
        exact absurd rfl (hke 7 rfl).1
      by_cases e26 : t = 114
      · subst e26; exact absurd rfl (hke 7 rfl).1
      · obtain rfl : t = 115 := Decidable.byContradiction fun h30 => e ⟨e24, e26, h30⟩
        exact absurd hd hd2
section
variable {P : Program} {ops : Array Oper} {SP : Nat → Value → World → Prop} {kl : Nat → Option Nat} {w0 : World} {o : Oper} {i d s : Nat}
theorem y_len {n : Nat} (hop : o.op = .call { callee := .builtin .len, args := #[.tmp s], argTypes := #[37] }) (hs : waits2 .any ops o s = true) (hk : kl s = none ∨ kl s = some i) (h1 : ∀ v w, SP s v w → ∃ A c, v = .slice A n c) (h2 : ∀ w, SP d (.int .i64 n) w) : Yields Tryz.prog ops SP kl w0 i o d := fun a W hb hsp => by
  obtain ⟨A, c, hv⟩ := h1 _ _ (hsp s hs hk)
  have e : a.eval (.tmp s) = .slice A n c := hv
  refine y_same (v := .int .i64 n) ?_ hb (h2 W)
  unfold execOp
  simp only [hop, resolve, invoke, builtin, Sem.run_bind, Sem.run_pure, Result.andThen_ok, List.map_toArray, List.map_cons, List.map_nil, e]
  go_simp
theorem y_movec {k : Value} (hop : o.op = .move (.const k)) (h2 : ∀ w, SP d k w) : Yields P ops SP kl w0 i o d := fun a W hb hsp =>
  y_same (v := k) (by unfold execOp; simp only [hop, Sem.run_pure]; rfl) hb (h2 W)
end
set_option maxHeartbeats 2000000 in
set_option maxRecDepth 100000 in
theorem run_neFact (f : Fa) (w : World) : (binOp .neq 26 (.agg (FA f)) (.agg (FA f))).run Tryz.prog w = .ok (.bool false) w := by
  unfold FA
  go_simp
theorem map_get {X Y : List Kn} (h : X.map Prod.snd = Y.map Prod.snd) {j : Nat} {x : Kn} (hx : X[j]? = some x) : ∃ y, Y[j]? = some (y, x.2) := by
  have h1 : (Y.map Prod.snd)[j]? = some x.2 := by rw [← h, List.getElem?_map, hx]; rfl
  rw [List.getElem?_map] at h1
  cases hy : Y[j]? with
  | none => rw [hy] at h1; cases h1
  | some y =>
    rw [hy] at h1
    obtain ⟨a, b⟩ := y
    exact ⟨a, by rw [show x.2 = b from (Option.some.inj h1).symm]⟩
end Go.Proofs.YtdkbbngedjiheaaGreatDoor
