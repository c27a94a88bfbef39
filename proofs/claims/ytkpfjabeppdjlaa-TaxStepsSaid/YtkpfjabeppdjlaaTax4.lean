/- The contract of band.Scaled: what a table takes of an amount. -/
import Derived.Test.YtkpfjabeppdjlaaTax3
import Derived.Test.YtkpfjabeppdjlaaTool
namespace Go.Proofs.Ytkpfjabeppdjlaa
open Go.RowKit Go.Shelf

attribute [local go_sem] Oper.semAt_some

/-- What a list of parts comes to. -/
def sumP : List (Int × Int) → Int
  | [] => 0
  | p :: l => p.1 * p.2 + sumP l
theorem sumP_append (a b : List (Int × Int)) : sumP (a ++ b) = sumP a + sumP b := by
  induction a with
  | nil => simp [sumP]
  | cons p a ih => simp only [List.cons_append, sumP, ih]; omega
/-- What a table takes, in millionths. -/
def tot (x d : Int) (t : List (Int × Int)) (k : Nat) : Int := sumP (ylds x d t k)
def half (T den : Int) : Int := T / den + if den - T % den ≤ T % den then 1 else 0
def scaledV (T of : Int) : Int × Int := if 1125899906842624 < half T (of * 1000000) then (0, 9) else (half T (of * 1000000), 0)

set_option maxRecDepth 100000 in
set_option maxHeartbeats 400000 in
theorem held1_nil_in (n : Nat) (l Bt : Nat) (v1 v2 : Value) (A : Option Addr) (cap : Nat) (J : List Part → World → Prop) (W : World) (hcB : W.cell? ⟨Bt, 0, none⟩ = some (.slice A 0 cap)) (h0 : J [] W) :
    CallsIn Fence.wide n Try.prog 26 #[.func (.yield l) #[] #[], .pointer (some ⟨Bt, 0, none⟩), v1, v2] W fun e W' => (∃ v, e = .returned v) ∧ J [] W' := by
  refine callsIn_of_wp Try.func26 rfl trivial ?_ rfl
  simp only [Try.ntmps26, List.size_toArray, List.length_cons, List.length_nil, Nat.reduceAdd, Nat.reduceSub, Array.replicate_succ, Array.replicate_zero, List.push_toArray, List.append_toArray, List.nil_append, List.cons_append]
  gi_wp2
  gi_loopw [11] (fun i wr => i = .int .i64 0 ∧ J [] wr) (fun _ _ => 0)
  case atStart => exact ⟨rfl, h0⟩
  case round =>
    obtain ⟨rfl, hJs⟩ := hrel
    gi_wp2
    go_end0
    exact ⟨⟨_, rfl⟩, hJs⟩

set_option maxHeartbeats 400000 in
theorem held_in (n : Nat) (x d : Int) (A : Option Addr) (len cap : Nat) (w : World) :
    CallsIn Fence.wide n Try.prog 24 #[.int .i64 x, .int .i64 d, .slice A len cap] w fun e w' =>
      e = .returned (.func (.func 26) #[] #[.pointer (some ⟨w.heap.size + 2, 0, none⟩), .pointer (some ⟨w.heap.size + 1, 0, none⟩), .pointer (some ⟨w.heap.size, 0, none⟩)]) ∧
      ((w.alloc (.cells #[.int .i64 x] 2)).alloc (.cells #[.int .i64 d] 3)).alloc (.cells #[.slice A len cap] 26) = w' := by
  refine callsIn_of_wp Try.func24 rfl trivial ?_ rfl
  simp only [Try.ntmps24, List.size_toArray, List.length_cons, List.length_nil, Nat.reduceAdd, Nat.reduceSub, Array.replicate_succ, Array.replicate_zero, List.push_toArray, List.append_toArray, List.nil_append, List.cons_append]
  gi_wp2
  go_ret
  exact ⟨rfl, rfl⟩

theorem Sl.below {α : Type} {enc : α → List Value} {sz B : Nat} {w w' : World} {A : Option Addr} {L : List α} (h : Sl enc sz w B A L) (hb : Below B w w') : Sl enc sz w' B A L := fun hne => by
  obtain ⟨b, off, rfl, hB, hc⟩ := h hne
  exact ⟨b, off, rfl, hB, fun i x hx j u hu => (hb.cell (p := ⟨b, _, none⟩) hB).trans (hc i x hx j u hu)⟩
theorem Sl.more {α : Type} {enc : α → List Value} {sz B B' : Nat} {w : World} {A : Option Addr} {L : List α} (h : Sl enc sz w B A L) (hb : B ≤ B') : Sl enc sz w B' A L := fun hne => by
  obtain ⟨b, off, rfl, hB, hc⟩ := h hne
  exact ⟨b, off, rfl, by omega, hc⟩

theorem held_stops (n : Nat) (hn : 1 ≤ n) (Bt Bi Bx n₀ cap : Nat) (A : Option Addr) (t : List (Int × Int)) (x d : Int) (ht : Right t) (hx0 : 0 ≤ x) (hx : x ≤ 450359962737049600) (hd0 : 1 ≤ d) (hd : d ≤ 400)
    (w : World) (hBt : Bt < w.heap.size) (hBi : Bi < w.heap.size) (hBx : Bx < w.heap.size) (hn₀ : n₀ ≤ w.heap.size) (hcB : w.cell? ⟨Bt, 0, none⟩ = some (.slice A t.length cap)) (hci : w.cell? ⟨Bi, 0, none⟩ = some (.int .i64 d)) (hcx : w.cell? ⟨Bx, 0, none⟩ = some (.int .i64 x))
    (hs : Sl encBand 2 w n₀ A t) :
    SeqStopsK Fence.wide n Try.prog 26 #[.pointer (some ⟨Bt, 0, none⟩), .pointer (some ⟨Bi, 0, none⟩), .pointer (some ⟨Bx, 0, none⟩)] (fun p : Part => #[Value.int .i64 p.1.1, Value.int .i64 p.1.2]) (KB n₀ [Bt, Bi, Bx])
      (fun ys => ys.map (·.1) = ylds x d t t.length) (fun pre => ∃ k, k ≤ t.length ∧ pre.map (·.1) = ylds x d t k) t.length w := fun l J Jx W hW hJ _ hY h0 => by
  have hcB' := (hW.cell (p := ⟨Bt, 0, none⟩) (by dsimp; omega)).trans hcB
  have hci' := (hW.cell (p := ⟨Bi, 0, none⟩) (by dsimp; omega)).trans hci
  have hcx' := (hW.cell (p := ⟨Bx, 0, none⟩) (by dsimp; omega)).trans hcx
  by_cases hne : t = []
  · subst hne
    exact (held1_nil_in n l Bt _ _ A cap J W hcB' h0).mono fun e W' ⟨he, hj⟩ => ⟨he, .inl ⟨[], rfl, hj⟩⟩
  · obtain ⟨b, off, rfl, hb, hc⟩ := hs hne
    have hz := hW.size
    refine held1_in n hn l Bt Bi Bx n₀ b off cap t x d ht hx0 hx hd0 hd hb J Jx (fun s A B hs hg => hJ s A B none hs hg (fun r e => by cases e)) hY W (by omega) (by omega) (by omega) (by omega) hcB' hci' hcx' (fun j hj => ?_) h0
    · have hx := List.getElem?_eq_getElem hj
      have h1 : bF t j = t[j].1 := by simp [bF, List.getD, hx]
      have h2 : bR t j = t[j].2 := by simp [bR, List.getD, hx]
      refine ⟨(hW.cell (p := ⟨b, _, none⟩) (by dsimp; omega)).trans ?_, (hW.cell (p := ⟨b, _, none⟩) (by dsimp; omega)).trans ?_⟩
      · rw [h1]; simpa using hc j _ hx 0 _ rfl
      · rw [h2]; simpa using hc j _ hx 1 _ rfl

theorem KB.drew {n₀ : Nat} {l : List Nat} {A B : World} (h : KB n₀ l A B) : KB n₀ l A B.drew := ⟨h.below.drew, h.same⟩
theorem boxed_drew {W : World} {B : Nat} {t : TypeId} {v : Value} (h : Boxed W B t v) : Boxed W.drew B t v := h

/-- Where a round of band.Scaled stands: what its cells hold, and what it has kept. -/
structure St (B z y : Nat) (w W W' : World) (t8 t9 t11 t12 : TypeId) (a8 a9 a11 a12 a13 : Value) : Prop where
  far : z + 2 ≤ y
  keeps : KeepsFrom B W W'
  kb : KB z [y + 5, y + 4, y + 3] W W'
  q8 : Boxed W' z t8 a8
  q9 : Boxed W' (z + 1) t9 a9
  q11 : Boxed W' y t11 a11
  q12 : Boxed W' (y + 1) t12 a12
  q13 : Boxed W' (y + 1 + 1) t12 a13
  bel : Below z w W'
section
variable {B z y : Nat} {w W W' : World} {t8 t9 t11 t12 : TypeId} {a8 a9 a11 a12 a13 : Value}
theorem St.drew (h : St B z y w W W' t8 t9 t11 t12 a8 a9 a11 a12 a13) : St B z y w W W'.drew t8 t9 t11 t12 a8 a9 a11 a12 a13 :=
  ⟨h.far, h.keeps.trans ((KeepsOthers.drew _).from _), h.kb.drew, h.q8, h.q9, h.q11, h.q12, h.q13, h.bel.drew⟩
theorem St.set8 (h : St B z y w W W' t8 t9 t11 t12 a8 a9 a11 a12 a13) (u : Value) : St B z y w W (W'.setCell ⟨z, 0, none⟩ u) t8 t9 t11 t12 u a9 a11 a12 a13 :=
  ⟨h.far, h.keeps.trans ((KeepsOthers.setCell _ _ _).from _), h.kb.setCell (p := ⟨z, 0, none⟩) (by have := h.far; dsimp; omega) (by have := h.far; dsimp; intro k hk; simp at hk; omega) u, h.q8.set u, h.q9.other (by have := h.far; omega) u, h.q11.other (by have := h.far; omega) u, h.q12.other (by have := h.far; omega) u, h.q13.other (by have := h.far; omega) u, h.bel.setCell (p := ⟨z, 0, none⟩) (by have := h.far; dsimp; omega) u⟩
theorem St.set9 (h : St B z y w W W' t8 t9 t11 t12 a8 a9 a11 a12 a13) (u : Value) : St B z y w W (W'.setCell ⟨z + 1, 0, none⟩ u) t8 t9 t11 t12 a8 u a11 a12 a13 :=
  ⟨h.far, h.keeps.trans ((KeepsOthers.setCell _ _ _).from _), h.kb.setCell (p := ⟨z + 1, 0, none⟩) (by have := h.far; dsimp; omega) (by have := h.far; dsimp; intro k hk; simp at hk; omega) u, h.q8.other (by have := h.far; omega) u, h.q9.set u, h.q11.other (by have := h.far; omega) u, h.q12.other (by have := h.far; omega) u, h.q13.other (by have := h.far; omega) u, h.bel.setCell (p := ⟨z + 1, 0, none⟩) (by have := h.far; dsimp; omega) u⟩
theorem St.set12 (h : St B z y w W W' t8 t9 t11 t12 a8 a9 a11 a12 a13) (u : Value) : St B z y w W (W'.setCell ⟨y + 1, 0, none⟩ u) t8 t9 t11 t12 a8 a9 a11 u a13 :=
  ⟨h.far, h.keeps.trans ((KeepsOthers.setCell _ _ _).from _), h.kb.setCell (p := ⟨y + 1, 0, none⟩) (by have := h.far; dsimp; omega) (by have := h.far; dsimp; intro k hk; simp at hk; omega) u, h.q8.other (by have := h.far; omega) u, h.q9.other (by have := h.far; omega) u, h.q11.other (by have := h.far; omega) u, h.q12.set u, h.q13.other (by have := h.far; omega) u, h.bel.setCell (p := ⟨y + 1, 0, none⟩) (by have := h.far; dsimp; omega) u⟩
theorem St.set13 (h : St B z y w W W' t8 t9 t11 t12 a8 a9 a11 a12 a13) (u : Value) : St B z y w W (W'.setCell ⟨y + 1 + 1, 0, none⟩ u) t8 t9 t11 t12 a8 a9 a11 a12 u :=
  ⟨h.far, h.keeps.trans ((KeepsOthers.setCell _ _ _).from _), h.kb.setCell (p := ⟨y + 1 + 1, 0, none⟩) (by have := h.far; dsimp; omega) (by have := h.far; dsimp; intro k hk; simp at hk; omega) u, h.q8.other (by have := h.far; omega) u, h.q9.other (by have := h.far; omega) u, h.q11.other (by have := h.far; omega) u, h.q12.other (by have := h.far; omega) u, h.q13.set u, h.bel.setCell (p := ⟨y + 1 + 1, 0, none⟩) (by have := h.far; dsimp; omega) u⟩
end

theorem step_nums (S den r m : Int) (hS0 : 0 ≤ S) (hr0 : 0 ≤ r) (hr1 : r ≤ 1000000) (hm0 : 0 < m) (hm1 : m ≤ 450359962737049600) (hd0 : 1000000 ≤ den) (hd1 : den ≤ 400000000) :
    0 ≤ m / den * r ∧ m / den * r ≤ 450359962737049600 ∧ 0 ≤ m % den * r ∧ m % den * r ≤ 400000000000000 ∧ 0 ≤ S / den ∧ (0 ≤ S % den ∧ S % den ≤ 400000000) ∧
    (S + r * m) / den = S / den + m / den * r + (S % den + m % den * r) / den ∧ (S + r * m) % den = (S % den + m % den * r) % den := by
  have e1 := Int.mul_ediv_add_emod m den
  have e2 := Int.mul_ediv_add_emod S den
  have b1 := Int.emod_nonneg m (show den ≠ 0 by omega)
  have b2 := Int.emod_lt_of_pos m (show 0 < den by omega)
  have b3 := Int.emod_nonneg S (show den ≠ 0 by omega)
  have b4 := Int.emod_lt_of_pos S (show 0 < den by omega)
  have d1 := Int.ediv_nonneg (show 0 ≤ m by omega) (show 0 ≤ den by omega)
  have d2 := Int.ediv_nonneg hS0 (show 0 ≤ den by omega)
  have hk : S + r * m = (S % den + m % den * r) + den * (S / den + m / den * r) := by
    have : r * m = r * (den * (m / den) + m % den) := by rw [e1]
    rw [this, Int.mul_add, Int.mul_add, ← Int.mul_assoc r den, Int.mul_comm r den, Int.mul_assoc den r, Int.mul_comm r (m / den), Int.mul_comm r (m % den)]
    omega
  refine ⟨Int.mul_nonneg d1 hr0, ?_, Int.mul_nonneg b1 hr0, ?_, d2, ⟨b3, by omega⟩, ?_, ?_⟩
  · have h1 : m / den * r ≤ m / den * den := Int.mul_le_mul_of_nonneg_left (by omega) d1
    rw [Int.mul_comm _ den] at h1
    omega
  · have h1 : m % den * r ≤ 400000000 * 1000000 := Int.mul_le_mul (by omega) hr1 hr0 (by omega)
    omega
  · rw [hk, Int.add_mul_ediv_left _ _ (by omega)]; omega
  · rw [hk, Int.add_mul_emod_self_left]

theorem boxed_at {W : World} {k : Nat} (hk : W.heap.size = k) (t : TypeId) (v : Value) : Boxed (W.alloc (.cells #[v] t)) k t v := hk ▸ Boxed.new W t v
theorem pair_ret {v : Int × Int} {a b : Int} (h : v = (a, b)) : Ending.returned (.tuple #[.int .i64 a, .int .i64 b]) = .returned (.tuple #[.int .i64 v.1, .int .i64 v.2]) := by rw [h]
theorem bad_all {t : List (Int × Int)} (h : chkE t = 0) : t.length ≤ 64 ∧ ∀ i, i < t.length → badAt t i = 0 := by
  unfold chkE at h
  by_cases h64 : 64 < t.length
  · rw [if_pos h64] at h; cases h
  · rw [if_neg h64] at h
    refine ⟨by omega, fun i hi => ?_⟩
    unfold firstBad at h
    cases hf : ((List.range t.length).map (badAt t)).find? (· ≠ 0) with
    | none =>
      have := List.find?_eq_none.1 hf (badAt t i) (List.mem_map.2 ⟨i, List.mem_range.2 hi, rfl⟩)
      simpa using this
    | some v =>
      rw [hf] at h
      have := List.find?_some hf
      simp at this h
      exact absurd h this
theorem right_of_chk {t : List (Int × Int)} (h : chkE t = 0) : Right t := by
  obtain ⟨h64, hb⟩ := bad_all h
  have key : ∀ i, i < t.length → ¬ ((i = 0 ∧ bF t i ≠ 0) ∨ (0 < i ∧ bF t i ≤ bF t (i - 1))) ∧ ¬ (1125899906842624 < bF t i ∨ bR t i < 0 ∨ 1000000 < bR t i) := by
    intro i hi
    have := hb i hi
    unfold badAt at this
    by_cases c1 : (i = 0 ∧ (t.getD i (0, 0)).1 ≠ 0) ∨ (0 < i ∧ (t.getD i (0, 0)).1 ≤ (t.getD (i - 1) (0, 0)).1)
    · rw [if_pos c1] at this; cases this
    · rw [if_neg c1] at this
      by_cases c2 : 1125899906842624 < (t.getD i (0, 0)).1 ∨ (t.getD i (0, 0)).2 < 0 ∨ 1000000 < (t.getD i (0, 0)).2
      · rw [if_pos c2] at this; cases this
      · exact ⟨c1, c2⟩
  refine ⟨h64, fun h0 => ?_, fun i hi => ?_, fun i hi => ?_, fun i hi => ?_, fun i hi => ?_⟩
  · have := (key 0 h0).1; omega
  · have := (key (i + 1) hi).1; simp only [Nat.add_sub_cancel] at this; omega
  · have := (key i hi).2; omega
  · have := (key i hi).2; omega
  · have := (key i hi).2; omega
theorem tot_up {x d : Int} {t : List (Int × Int)} (ht : Right t) : ∀ m k, k + m ≤ t.length → tot x d t k ≤ tot x d t (k + m) := by
  intro m
  induction m with
  | zero => intro k _; exact Int.le_refl _
  | succ m ih =>
    intro k hk
    have h1 := ih k (by omega)
    have h2 : tot x d t (k + m) ≤ tot x d t (k + m + 1) := by
      unfold tot
      rw [show ylds x d t (k + m + 1) = if bF t (k + m) * d < bTo x d t (k + m) then ylds x d t (k + m) ++ [(bR t (k + m), bTo x d t (k + m) - bF t (k + m) * d)] else ylds x d t (k + m) from rfl]
      split
      · rw [sumP_append]
        have := Int.mul_nonneg (ht.low (k + m) (by omega)) (show 0 ≤ bTo x d t (k + m) - bF t (k + m) * d by omega)
        simp only [sumP]
        omega
      · exact Int.le_refl _
    exact Int.le_trans h1 h2
theorem tot_nonneg {x d : Int} {t : List (Int × Int)} (ht : Right t) (k : Nat) (hk : k ≤ t.length) : 0 ≤ tot x d t k := by
  have := tot_up (x := x) (d := d) ht k 0 (by omega)
  simpa [tot, ylds, sumP] using this
theorem half_ge {T den : Int} : T / den ≤ half T den := by unfold half; split <;> omega

set_option maxRecDepth 100000 in
set_option maxHeartbeats 2000000 in
theorem band_Scaled_in (x d n : Int) (A : Option Addr) (cap : Nat) (t : List (Int × Int)) (w : World) (hcap : t.length ≤ 9223372036854775807) (hx0 : 0 ≤ x) (hx : x ≤ 450359962737049600) (hd0 : 1 ≤ d) (hd : d ≤ n) (hn : n ≤ 400)
    (hs : Sl encBand 2 w w.heap.size A t) :
    CallsIn Fence.wide 5 Try.prog 20 #[.int .i64 x, .int .i64 d, .int .i64 n, .slice A t.length cap] w fun e W' =>
      e = .returned (.tuple #[.int .i64 (if chkE t ≠ 0 then (0, chkE t) else scaledV (tot x d t t.length) n).1, .int .i64 (if chkE t ≠ 0 then (0, chkE t) else scaledV (tot x d t t.length) n).2]) ∧ Below w.heap.size w W' := by
  refine callsIn_of_wp_marks Try.func20 rfl trivial ?_ rfl
  simp only [Try.ntmps20, List.size_toArray, List.length_cons, List.length_nil, Nat.reduceAdd, Nat.reduceSub, Array.replicate_succ, Array.replicate_zero, List.push_toArray, List.append_toArray, List.nil_append, List.cons_append]
  by_cases hE : chkE t = 0
  · have he1 : (chkE t != 0) = false := by simp [hE]
    have HE := Lib.hid hE
    clear hE
    gi_wp2
    have hs2 : Sl encBand 2 ((w.alloc (.cells #[.int .i64 0] 22)).alloc (.cells #[.int .i64 0] 31)) (w.heap.size + 2) A t := (hs.below (((Below.refl _ w).alloc (Nat.le_refl _) _).alloc (by simp) _)).more (by omega)
    refine ⟨trivial, (callsIn_wide.2 (band_Check t A cap _ hcap (hs2.more (by simp)))).mono ?_⟩
    rintro e w1 ⟨rfl, hb1⟩
    gi_wp2
    refine ⟨trivial, (held_in _ x d A t.length cap _).mono ?_⟩
    rintro e w2 ⟨rfl, rfl⟩
    gi_wp2
    obtain ⟨W2, hW2⟩ : ∃ W2 : World, ((((((w1.alloc (.cells #[.int .i64 (n * 1000000)] 2)).alloc (.cells #[.int .i64 0] 2)).alloc (.cells #[.int .i64 0] 2)).alloc (.cells #[.int .i64 x] 2)).alloc (.cells #[.int .i64 d] 3)).alloc (.cells #[.slice A t.length cap] 26)) = W2 := ⟨_, rfl⟩
    rw [hW2]
    have hz2 : W2.heap.size = w1.heap.size + 6 := by rw [← hW2]; simp
    have hb1z := hb1.size
    simp only [World.size_alloc] at hb1z
    have hb2 : Below w.heap.size w W2 := by
      rw [← hW2]
      exact (((((((((Below.refl _ w).alloc (Nat.le_refl _) _).alloc (by simp) _).trans (hb1.mono (by simp; omega))).alloc (by omega) _).alloc (by simp; omega) _).alloc (by simp; omega) _).alloc (by simp; omega) _).alloc (by simp; omega) _).alloc (by simp; omega) _
    have p8 : Boxed w1 w.heap.size 22 (.int .i64 0) := (hb1.block _ (by simp; omega)).trans ((Boxed.new w 22 (.int .i64 0)).alloc (.cells #[.int .i64 0] 31))
    have p9 : Boxed w1 (w.heap.size + 1) 31 (.int .i64 0) := (hb1.block _ (by simp)).trans (by have := Boxed.new (w.alloc (.cells #[.int .i64 0] 22)) 31 (.int .i64 0); rwa [World.size_alloc] at this)
    have q8 : Boxed W2 w.heap.size 22 (.int .i64 0) := by rw [← hW2]; exact (((((p8.alloc _).alloc _).alloc _).alloc _).alloc _).alloc _
    have q9 : Boxed W2 (w.heap.size + 1) 31 (.int .i64 0) := by rw [← hW2]; exact (((((p9.alloc _).alloc _).alloc _).alloc _).alloc _).alloc _
    have q11 : Boxed W2 w1.heap.size 2 (.int .i64 (n * 1000000)) := by rw [← hW2]; exact (((((Boxed.new w1 _ _).alloc _).alloc _).alloc _).alloc _).alloc _
    have q12 : Boxed W2 (w1.heap.size + 1) 2 (.int .i64 0) := by rw [← hW2]; exact ((((boxed_at (by simp) _ _).alloc _).alloc _).alloc _).alloc _
    have q13 : Boxed W2 (w1.heap.size + 1 + 1) 2 (.int .i64 0) := by rw [← hW2]; exact (((boxed_at (by simp) _ _).alloc _).alloc _).alloc _
    have qx : Boxed W2 (w1.heap.size + 3) 2 (.int .i64 x) := by rw [← hW2]; exact ((boxed_at (by simp) _ _).alloc _).alloc _
    have qd : Boxed W2 (w1.heap.size + 4) 3 (.int .i64 d) := by rw [← hW2]; exact (boxed_at (by simp) _ _).alloc _
    have qt : Boxed W2 (w1.heap.size + 5) 26 (.slice A t.length cap) := by rw [← hW2]; exact boxed_at (by simp) _ _
    have hright : Right t := right_of_chk HE.out
    refine wpIn_rangeFunc_ownG rfl (by omega) (gf := 26) (lb := #[.pointer (some ⟨w1.heap.size + 5, 0, none⟩), .pointer (some ⟨w1.heap.size + 4, 0, none⟩), .pointer (some ⟨w1.heap.size + 3, 0, none⟩)]) rfl trivial (enters_of Try.func26 (by kernel_rfl) rfl)
      (held_stops 4 (by omega) (w1.heap.size + 5) (w1.heap.size + 4) (w1.heap.size + 3) w.heap.size cap A t x d hright hx0 hx hd0 (by omega) W2 (by omega) (by omega) (by omega) hb2.size qt.cell qd.cell qx.cell (hs.below hb2))
      KB.trans (fun W l o o' hl ho _ _ => ⟨belowK_b (w := W2) hb2.size W l o o' hl ho ‹_› ‹_›, fun k hk => (grownBy_putObj' W l o').block k (by have h1 := (Array.getElem?_eq_some_iff.1 ho).1; simp at hk; omega) (by simp at hk ⊢; omega)⟩) (Below.refl _ _) (fun _ => rfl)
      (fun pre W => (Boxed W w.heap.size 22 (.int .i64 0) ∧ Boxed W (w.heap.size + 1) 31 (.int .i64 0) ∧ Boxed W w1.heap.size 2 (.int .i64 (n * 1000000)) ∧
        Boxed W (w1.heap.size + 1) 2 (.int .i64 (sumP (pre.map (·.1)) / (n * 1000000))) ∧ Boxed W (w1.heap.size + 1 + 1) 2 (.int .i64 (sumP (pre.map (·.1)) % (n * 1000000))) ∧ 0 ≤ sumP (pre.map (·.1)) ∧ sumP (pre.map (·.1)) / (n * 1000000) ≤ 1125899906842624) ∧ Below w.heap.size w W)
      (fun c pre W => (c = .ret ∧ Boxed W w.heap.size 22 (.int .i64 0) ∧ Boxed W (w.heap.size + 1) 31 (.int .i64 9) ∧ 1125899906842624 < sumP (pre.map (·.1)) / (n * 1000000)) ∧ Below w.heap.size w W)
      (OwnFrom.and (Own.from (fun s X Y row h hg hr => ⟨boxed_own _ _ (fun _ => _) s X Y row h.1 hg hr, boxed_own _ _ (fun _ => _) s X Y row h.2.1 hg hr, boxed_own _ _ (fun _ => _) s X Y row h.2.2.1 hg hr, boxed_own _ _ (fun pre : List Part => Value.int .i64 (sumP (pre.map (·.1)) / (n * 1000000))) s X Y row h.2.2.2.1 hg hr, boxed_own _ _ (fun pre : List Part => Value.int .i64 (sumP (pre.map (·.1)) % (n * 1000000))) s X Y row h.2.2.2.2.1 hg hr, h.2.2.2.2.2⟩) _) (ownFrom_below (Nat.le_refl _) hb2.size))
      (fun c => OwnFrom.and (Own.from (fun s X Y row h hg hr => ⟨h.1, boxed_own _ _ (fun _ => _) s X Y row h.2.1 hg hr, boxed_own _ _ (fun _ => _) s X Y row h.2.2.1 hg hr, h.2.2.2⟩) _) (ownFrom_below (Nat.le_refl _) hb2.size))
      ⟨⟨q8, q9, q11, by simpa [sumP] using q12, by simpa [sumP] using q13, by simp [sumP], by simp [sumP]⟩, hb2⟩ (fun p => { tmps := #[.int .i64 x, .int .i64 d, .int .i64 n, .slice A t.length cap, undef, undef, undef, undef, .pointer (some ⟨w.heap.size, 0, none⟩), .pointer (some ⟨w.heap.size + 1, 0, none⟩), .int .i64 (chkE t), .pointer (some ⟨w1.heap.size, 0, none⟩), .pointer (some ⟨w1.heap.size + 1, 0, none⟩), .pointer (some ⟨w1.heap.size + 1 + 1, 0, none⟩), .int .i64 p.1.1, .int .i64 p.1.2, .slice A t.length cap, .int .i64 (chkE t), .int .i64 (chkE t), .bool false, undef, .int .i64 d, .bool (decide (d < 1)), .bool (decide (d < 1)), .int .i64 d, .int .i64 n, .bool (decide (n < d)), .bool (decide (d < 1) || decide (n < d)), .bool (decide (d < 1) || decide (n < d)), .int .i64 n, .bool (decide (400 < n)), .bool (decide (d < 1) || decide (n < d) || decide (400 < n)), .int .i64 n, .int .i64 (n * 1000000), .int .i64 x, .int .i64 d, .slice A t.length cap, .func (.func 26) #[] #[.pointer (some ⟨w1.heap.size + 1 + 1 + 1 + 2, 0, none⟩), .pointer (some ⟨w1.heap.size + 1 + 1 + 1 + 1, 0, none⟩), .pointer (some ⟨w1.heap.size + 1 + 1 + 1, 0, none⟩)], .int .i64 p.1.1, .int .i64 p.1.2, undef, undef, undef, undef, undef, undef, undef, undef, undef, undef, undef, undef, undef, undef, undef, undef, undef, undef, undef, undef, undef, undef, undef, undef, undef, undef, undef, undef, undef, undef, undef, undef, undef, undef], defers := [] }) ?assign ?body ?done ?stop
    case assign =>
      intro l p W K hK
      gi_wp2
      exact hK
    case body =>
      rintro l pre p W ⟨⟨q8, q9, q11, q12, q13, hS0, hS1⟩, hB⟩ _
      have c8 := q8.cell
      have f8 := q8.frozen
      have c9 := q9.cell
      have f9 := q9.frozen
      have c11 := q11.cell
      have c12 := q12.cell
      have f12 := q12.frozen
      have c13 : W.cell? ⟨w1.heap.size + 1 + 1, 0, none⟩ = some _ := q13.cell
      have f13 : W.frozen? ⟨w1.heap.size + 1 + 1, 0, none⟩ = false := q13.frozen
      have hmx : Try.prog.follows .mixedOrders = true := by kernel_rfl
      have st0 : St (w1.heap.size + 6) w.heap.size w1.heap.size w W W _ _ _ _ _ _ _ _ _ := ⟨hb1z, KeepsFrom.refl _ _, KB.refl _ _ _, q8, q9, q11, q12, q13, hB⟩
      obtain ⟨hr0, hr1, hm0, hm1⟩ := p.2
      have HSS := Lib.hid (show sumP ((pre ++ [p]).map (·.1)) = sumP (pre.map (·.1)) + p.1.1 * p.1.2 by rw [List.map_append, sumP_append]; simp [sumP])
      generalize sumP (pre.map (·.1)) = S at *
      generalize p.1.1 = r at *
      generalize p.1.2 = m at *
      have hden0 : 1000000 ≤ n * 1000000 := by omega
      have hden1 : n * 1000000 ≤ 400000000 := by omega
      generalize n * 1000000 = den at *
      have hA := step_nums S den r m hS0 hr0 hr1 hm0 hm1 hden0 hden1
      obtain ⟨a1, a2, a3, a4, a5, a6, a7, a8⟩ := hA
      have HE1 := Lib.hid a7
      have HE2 := Lib.hid a8
      clear a7 a8
      have hdz : ¬ den = 0 := by omega
      have d1 : IntKind.i64.wrap (m.tdiv den) = m / den := by rw [Int.tdiv_eq_ediv_of_nonneg (by omega)]; exact IntWalk.i64_in _ (by have := Int.ediv_nonneg (show 0 ≤ m by omega) (show 0 ≤ den by omega); have := Int.ediv_le_self den (show 0 ≤ m by omega); omega)
      have d2 : m.tmod den = m % den := Int.tmod_eq_emod_of_nonneg (by omega)
      generalize hu : m / den * r = u at *
      generalize hv : m % den * r = v at *
      have d3 : IntKind.i64.wrap (m / den * r) = u := by rw [hu]; exact IntWalk.i64_in _ (by omega)
      have d4 : IntKind.i64.wrap (m % den * r) = v := by rw [hv]; exact IntWalk.i64_in _ (by omega)
      generalize hp : S / den = p0 at *
      generalize hq : S % den = q0 at *
      have d5 : IntKind.i64.wrap (p0 + u) = p0 + u := IntWalk.i64_in _ (by omega)
      have d6 : IntKind.i64.wrap (q0 + v) = q0 + v := IntWalk.i64_in _ (by omega)
      have l0 : 0 ≤ q0 + v := by omega
      have l1 : q0 + v ≤ 400000400000000 := by omega
      have l2 := Int.ediv_nonneg l0 (show 0 ≤ den by omega)
      have l3 := Int.ediv_le_self den l0
      have d7 : IntKind.i64.wrap ((q0 + v).tdiv den) = (q0 + v) / den := by rw [Int.tdiv_eq_ediv_of_nonneg l0]; exact IntWalk.i64_in _ (by omega)
      have d8 : (q0 + v).tmod den = (q0 + v) % den := Int.tmod_eq_emod_of_nonneg l0
      have d9 : IntKind.i64.wrap (p0 + u + (q0 + v) / den) = p0 + u + (q0 + v) / den := IntWalk.i64_in _ (by omega)
      have HU := Lib.hid hu
      have HV := Lib.hid hv
      have HP := Lib.hid hp
      have HQ := Lib.hid hq
      clear hu hv hp hq
      gi_wp2
      refine wpIn_region_still_tail 7 hmx (by kernel_rfl) (by kernel_rfl) ?_
      simp only [List.take_succ_cons, List.take_zero, List.drop_succ_cons, List.drop_zero]
      repeat still_step
      refine wpStill_nil ?_
      gi_wp2
      refine wpIn_region_still_tail 7 hmx (by kernel_rfl) (by kernel_rfl) ?_
      simp only [List.take_succ_cons, List.take_zero, List.drop_succ_cons, List.drop_zero]
      repeat still_step
      refine wpStill_nil ?_
      gi_wp2
      refine wpIn_region_calm (fun w' => w'.cell? ⟨w1.heap.size, 0, none⟩ = some (.int .i64 den) ∧ w'.cell? ⟨w1.heap.size + 1 + 1, 0, none⟩ = some (.int .i64 (q0 + v))) 9 hmx (by kernel_rfl) ?_ (fun hHeld => ?_)
      · constructor <;> go_simp
      refine wpAnyG_take (i := 1) (v := .int .i64 (q0 + v)) rfl (by kernel_rfl) (by kernel_rfl) (by kernel_rfl) (by kernel_rfl) (fun _ _ _ h => absurd h.1 (by simp)) (Or.inl ⟨by rfl, ?_⟩) (by assumption) ?_
      · (intro w hSw; obtain ⟨hSw1, hSw2⟩ := hSw; go_simp)
      refine wpAnyG_take (i := 2) (v := .int .i64 (den)) rfl (by kernel_rfl) (by kernel_rfl) (by kernel_rfl) (by kernel_rfl) (fun _ _ _ h => absurd h.1 (by simp)) (Or.inl ⟨by rfl, ?_⟩) (by assumption) ?_
      · (intro w hSw; obtain ⟨hSw1, hSw2⟩ := hSw; go_simp)
      refine wpAnyG_take (i := 5) (v := .int .i64 (q0 + v)) rfl (by kernel_rfl) (by kernel_rfl) (by kernel_rfl) (by kernel_rfl) (fun _ _ _ h => absurd h.1 (by simp)) (Or.inl ⟨by rfl, ?_⟩) (by assumption) ?_
      · (intro w hSw; obtain ⟨hSw1, hSw2⟩ := hSw; go_simp)
      refine wpAnyG_take (i := 6) (v := .int .i64 (den)) rfl (by kernel_rfl) (by kernel_rfl) (by kernel_rfl) (by kernel_rfl) (fun _ _ _ h => absurd h.1 (by simp)) (Or.inl ⟨by rfl, ?_⟩) (by assumption) ?_
      · (intro w hSw; obtain ⟨hSw1, hSw2⟩ := hSw; go_simp)
      refine wpAnyG_take (i := 3) (v := .int .i64 ((q0 + v) / den)) rfl (by kernel_rfl) (by kernel_rfl) (by kernel_rfl) (by kernel_rfl) (fun _ _ _ h => absurd h.1 (by simp)) (Or.inl ⟨by rfl, ?_⟩) (by assumption) ?_
      · (intro w hSw; obtain ⟨hSw1, hSw2⟩ := hSw; go_simp)
      refine wpAnyG_take (i := 7) (v := .int .i64 ((q0 + v) % den)) rfl (by kernel_rfl) (by kernel_rfl) (by kernel_rfl) (by kernel_rfl) (fun _ _ _ h => absurd h.1 (by simp)) (Or.inl ⟨by rfl, ?_⟩) (by assumption) ?_
      · (intro w hSw; obtain ⟨hSw1, hSw2⟩ := hSw; go_simp)
      refine wpAnyG_one (i := 0) (by kernel_rfl) rfl (fun K hK => ?_)
      go_simp
      refine hK.out _ _ (fun hne => ?_) (fun hHeld => ?_)
      · exact hHeld
      clear hK
      replace hHeld := hHeld.resolve_right (by decide)
      refine wpAnyG_take (i := 4) (v := .int .i64 (p0 + u + (q0 + v) / den)) rfl (by kernel_rfl) (by kernel_rfl) (by kernel_rfl) (by kernel_rfl) (fun _ _ _ h => absurd h.1 (by simp)) (Or.inl ⟨by rfl, ?_⟩) (by assumption) ?_
      · (intro w hSw; obtain ⟨hSw1, hSw2⟩ := hSw; go_simp)
      refine wpAnyG_one (i := 8) (by kernel_rfl) rfl (fun K hK => ?_)
      go_simp
      refine hK.out _ _ (fun hne => ?_) (fun hHeld => ?_)
      · constructor <;> go_simp
      clear hK
      replace hHeld := hHeld.resolve_right (by decide)
      refine wpAnyG_one (i := 9) (by kernel_rfl) rfl (fun K hK => ?_)
      go_simp
      refine hK.out _ _ (fun hne => ?_) (fun hHeld => ?_)
      · exact absurd rfl hne
      clear hK
      refine wpAnyG_done (by kernel_rfl) ⟨rfl, ?_⟩ _
      gi_wp2
      · have h1 := ((((((((st0.set12 (.int .i64 (p0 + u))).set13 (.int .i64 (q0 + v))).set12 (.int .i64 (p0 + u + (q0 + v) / den))).set13 (.int .i64 ((q0 + v) % den))).set8 (.int .i64 0)).set9 (.int .i64 9)).drew).drew).drew
        exact ⟨h1.keeps, ⟨rfl, h1.q8, h1.q9, by rw [HSS.out, HE1.out]; assumption⟩, h1.bel⟩
      · have h1 := ((((((st0.set12 (.int .i64 (p0 + u))).set13 (.int .i64 (q0 + v))).set12 (.int .i64 (p0 + u + (q0 + v) / den))).set13 (.int .i64 ((q0 + v) % den))).drew).drew).drew
        refine ⟨h1.keeps, h1.kb, ⟨h1.q8, h1.q9, h1.q11, ?_, ?_, ?_, ?_⟩, h1.bel⟩
        · rw [HSS.out, HE1.out]
          exact h1.q12
        · rw [HSS.out, HE2.out]
          exact h1.q13
        · rw [HSS.out]
          have := Int.mul_nonneg hr0 (show 0 ≤ m by omega)
          omega
        · rw [HSS.out, HE1.out]
          assumption
    case done =>
      rintro D ys W hD hys ⟨⟨q8, q9, q11, q12, q13, hS0, hS1⟩, hB⟩ hK
      have c8 := q8.cell
      have f8 := q8.frozen
      have c9 := q9.cell
      have f9 := q9.frozen
      have c11 := q11.cell
      have c12 := q12.cell
      have f12 := q12.frozen
      have c13 : W.cell? ⟨w1.heap.size + 1 + 1, 0, none⟩ = some _ := q13.cell
      rw [hys] at c12 c13 hS0 hS1
      have hden0 : 1000000 ≤ n * 1000000 := by omega
      have hden1 : n * 1000000 ≤ 400000000 := by omega
      have hfin : scaledV (tot x d t t.length) n = if 1125899906842624 < sumP (ylds x d t t.length) / (n * 1000000) + (if (n * 1000000) - sumP (ylds x d t t.length) % (n * 1000000) ≤ sumP (ylds x d t t.length) % (n * 1000000) then 1 else 0) then (0, 9) else (sumP (ylds x d t t.length) / (n * 1000000) + (if (n * 1000000) - sumP (ylds x d t t.length) % (n * 1000000) ≤ sumP (ylds x d t t.length) % (n * 1000000) then 1 else 0), 0) := rfl
      have HF := Lib.hid hfin
      clear hfin hys
      generalize sumP (ylds x d t t.length) = S at *
      generalize n * 1000000 = den at *
      have b3 := Int.emod_nonneg S (show den ≠ 0 by omega)
      have b4 := Int.emod_lt_of_pos S (show 0 < den by omega)
      have b5 := Int.ediv_nonneg hS0 (show 0 ≤ den by omega)
      have st0 : St (w1.heap.size + 6) w.heap.size w1.heap.size w W W _ _ _ _ _ _ _ _ _ := ⟨hb1z, KeepsFrom.refl _ _, KB.refl _ _ _, q8, q9, q11, q12, q13, hB⟩
      generalize S / den = p0 at *
      generalize S % den = q0 at *
      rw [hz2] at hD
      have fin : ∀ (r1 r2 : Int) (W' : World) (v3 v4 v5 : Value), St (w1.heap.size + 6) w.heap.size w1.heap.size w W W' 22 31 2 2 (.int .i64 r1) (.int .i64 r2) v3 v4 v5 →
          W'.heap[D]? = some (.deferred (some [])) ∧ (W'.putObj D (.deferred none)).cell? ⟨w.heap.size, 0, none⟩ = some (.int .i64 r1) ∧ (W'.putObj D (.deferred none)).cell? ⟨w.heap.size + 1, 0, none⟩ = some (.int .i64 r2) ∧ Below w.heap.size w (W'.putObj D (.deferred none)) := by
        intro r1 r2 W' v3 v4 v5 h
        have hK' := h.keeps.same D _ hD hK rfl
        exact ⟨hK', (h.q8.kept (grownBy_putObj' _ D (.deferred none)) (by simp; omega)).cell, (h.q9.kept (grownBy_putObj' _ D (.deferred none)) (by simp; omega)).cell, h.bel.trans (belowK_b (w := w) (Nat.le_refl _) _ D _ _ (by omega) hK' rfl rfl)⟩
      have FIN := Lib.hid fin
      have ST := Lib.hid st0
      clear fin st0
      gi_wp2
      · have h1 := FIN.out _ _ _ _ _ _ (((ST.out.set12 (.int .i64 (p0 + 1))).set8 (.int .i64 0)).set9 (.int .i64 9))
        refine ⟨by simp, .inl ⟨_, _, rfl, run_takeDeferred h1.1, ?_⟩⟩
        refine ⟨.tuple #[.int .i64 0, .int .i64 9], by simp [results, Try.f20, go_sem, h1.2.1, h1.2.2.1], ?_, h1.2.2.2⟩
        have e1 : den - q0 ≤ q0 := by assumption
        exact pair_ret (by rw [HF.out, if_pos e1, if_pos (by omega)])
      · have h1 := FIN.out _ _ _ _ _ _ (((ST.out.set12 (.int .i64 (p0 + 1))).set8 (.int .i64 (p0 + 1))).set9 (.int .i64 0))
        refine ⟨by simp, .inl ⟨_, _, rfl, run_takeDeferred h1.1, ?_⟩⟩
        refine ⟨.tuple #[.int .i64 (p0 + 1), .int .i64 0], by simp [results, Try.f20, go_sem, h1.2.1, h1.2.2.1], ?_, h1.2.2.2⟩
        have e1 : den - q0 ≤ q0 := by assumption
        exact pair_ret (by rw [HF.out, if_pos e1, if_neg (by omega)])
      · have h1 := FIN.out _ _ _ _ _ _ ((ST.out.set8 (.int .i64 p0)).set9 (.int .i64 0))
        refine ⟨by simp, .inl ⟨_, _, rfl, run_takeDeferred h1.1, ?_⟩⟩
        refine ⟨.tuple #[.int .i64 p0, .int .i64 0], by simp [results, Try.f20, go_sem, h1.2.1, h1.2.2.1], ?_, h1.2.2.2⟩
        have e1 : ¬ den - q0 ≤ q0 := by omega
        exact pair_ret (by rw [HF.out, if_neg e1, Int.add_zero, if_neg (by omega)])
    case stop =>
      rintro D c pre W hD ⟨k, hk, hpre⟩ ⟨⟨rfl, q8, q9, hlt⟩, hB⟩ hK
      have HLT : Hid (scaledV (tot x d t t.length) n = (0, 9)) := by
        rw [hpre] at hlt
        have h1 : sumP (ylds x d t k) ≤ tot x d t t.length := by
          have := tot_up (x := x) (d := d) hright (t.length - k) k (by omega)
          rwa [show k + (t.length - k) = t.length by omega] at this
        have h2 := Int.ediv_le_ediv (show 0 < n * 1000000 by omega) h1
        have h3 := half_ge (T := tot x d t t.length) (den := n * 1000000)
        show scaledV _ _ = _
        unfold scaledV
        rw [if_pos (by omega)]
      rw [hz2] at hD
      gi_wp2
      refine ⟨by simp, .inl ⟨_, _, rfl, run_takeDeferred hK, ?_⟩⟩
      have c8 := (q8.kept (grownBy_putObj' _ D (.deferred none)) (by simp; omega)).cell
      have c9 := (q9.kept (grownBy_putObj' _ D (.deferred none)) (by simp; omega)).cell
      refine ⟨.tuple #[.int .i64 0, .int .i64 9], by simp [results, Try.f20, go_sem, c8, c9], ?_, hB.trans (belowK_b (w := w) (Nat.le_refl _) _ D _ _ (by omega) hK rfl rfl)⟩
      exact pair_ret HLT.out
  · have he1 : (chkE t != 0) = true := by simp [hE]
    have HE := Lib.hid hE
    clear hE
    gi_wp2
    have hs2 : Sl encBand 2 ((w.alloc (.cells #[.int .i64 0] 22)).alloc (.cells #[.int .i64 0] 31)) (w.heap.size + 2) A t := (hs.below (((Below.refl _ w).alloc (Nat.le_refl _) _).alloc (by simp) _)).more (by omega)
    refine ⟨trivial, (callsIn_wide.2 (band_Check t A cap _ hcap (hs2.more (by simp)))).mono ?_⟩
    rintro e w1 ⟨rfl, hb1⟩
    have p8 : Boxed w1 w.heap.size 22 (.int .i64 0) := (hb1.block _ (by simp; omega)).trans ((Boxed.new w 22 (.int .i64 0)).alloc (.cells #[.int .i64 0] 31))
    have p9 : Boxed w1 (w.heap.size + 1) 31 (.int .i64 0) := (hb1.block _ (by simp)).trans (by have := Boxed.new (w.alloc (.cells #[.int .i64 0] 22)) 31 (.int .i64 0); rwa [World.size_alloc] at this)
    have c8 := p8.cell
    have f8 := p8.frozen
    have c9 := p9.cell
    have f9 := p9.frozen
    gi_wp2
    have b8 := (p8.set (.int .i64 0)).other (B' := w.heap.size + 1) (by omega) (.int .i64 (chkE t))
    have b9 := (p9.other (B' := w.heap.size) (by omega) (.int .i64 0)).set (.int .i64 (chkE t))
    refine ⟨.tuple #[.int .i64 0, .int .i64 (chkE t)], by simp [results, Try.f20, go_sem, b8.cell, b9.cell], rfl, ?_⟩
    exact (((((Below.refl _ w).alloc (Nat.le_refl _) _).alloc (by simp) _).trans (hb1.mono (by simp; omega))).setCell (p := ⟨w.heap.size, 0, none⟩) (Nat.le_refl _) _).setCell (p := ⟨w.heap.size + 1, 0, none⟩) (by dsimp; omega) _
end Go.Proofs.Ytkpfjabeppdjlaa
