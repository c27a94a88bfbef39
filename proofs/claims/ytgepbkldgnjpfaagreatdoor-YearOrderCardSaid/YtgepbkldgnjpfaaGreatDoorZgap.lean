/- Out of: Ys4. -/
import Derived.Test.YtgepbkldgnjpfaaGreatDoorZgaf
/- YearOrder, in plain: the gross items turned round, and cut in two, change nothing. -/
namespace Go.Proofs.YtgepbkldgnjpfaaGreatDoor
open Go.RowKit Go.Sort Go.BigFrame Go.Maps

def anyK (c : ByteArray) : List It → Bool
  | [] => false
  | x :: r => decide (x.1 = c) || anyK c r
def sumK (c : ByteArray) : List It → Int
  | [] => 0
  | x :: r => (if x.1 = c then x.2 else 0) + sumK c r
theorem sumK_none {c : ByteArray} : ∀ {l : List It}, anyK c l = false → sumK c l = 0
  | [], _ => rfl
  | x :: r, h => by
    unfold anyK at h
    rw [Bool.or_eq_false_iff] at h
    show (if x.1 = c then x.2 else 0) + sumK c r = 0
    rw [if_neg (of_decide_eq_false h.1), sumK_none h.2]
    rfl
theorem anyK_app (c : ByteArray) : ∀ (l r : List It), anyK c (l ++ r) = (anyK c l || anyK c r)
  | [], r => rfl
  | x :: l, r => by show (decide (x.1 = c) || anyK c (l ++ r)) = (decide (x.1 = c) || anyK c l || anyK c r); rw [anyK_app c l r, Bool.or_assoc]
theorem sumK_app (c : ByteArray) : ∀ (l r : List It), sumK c (l ++ r) = sumK c l + sumK c r
  | [], r => by show sumK c r = 0 + sumK c r; omega
  | x :: l, r => by show (if x.1 = c then x.2 else 0) + sumK c (l ++ r) = (if x.1 = c then x.2 else 0) + sumK c l + sumK c r; rw [sumK_app c l r]; omega
theorem sumI_app : ∀ (l r : List It), sumI (l ++ r) = sumI l + sumI r
  | [], r => by show sumI r = 0 + sumI r; omega
  | x :: l, r => by rw [List.cons_append, sumI_cons, sumI_cons, sumI_app l r]; omega
theorem wrap_wrap (a b : Int) : IntKind.i64.wrap (IntKind.i64.wrap a + b) = IntKind.i64.wrap (a + b) := by
  simp only [IntKind.wrap_i64]
  omega
/-- What lines of a part leave at a key of that part. -/
theorem addP_same {part : Int} {k : Kp} (hk : k.1.1 = part) : ∀ (l : List It) (m : Ass Kp Int), getA (addP part m l) k = if anyK k.1.2 l = true then some (IntKind.i64.wrap (gP m k + sumK k.1.2 l)) else getA m k
  | [], m => by rw [if_neg (by simp [anyK])]; cases m <;> rfl
  | x :: r, m => by
    by_cases h : (0 ≤ part ∧ part ≤ 6) ∧ x.1.size ≤ 32
    · rw [addP_cons h, addP_same hk r]
      by_cases e : x.1 = k.1.2
      · have ek : (⟨(part, x.1), h⟩ : Kp) = k := Subtype.ext (Prod.ext hk.symm e)
        have hg : getA ((⟨(part, x.1), h⟩, IntKind.i64.wrap (gP m ⟨(part, x.1), h⟩ + x.2)) :: m) k = some (IntKind.i64.wrap (gP m k + x.2)) := by
          show (if (⟨(part, x.1), h⟩ : Kp) = k then _ else _) = _
          rw [if_pos ek, ek]
        have hg2 : gP ((⟨(part, x.1), h⟩, IntKind.i64.wrap (gP m ⟨(part, x.1), h⟩ + x.2)) :: m) k = IntKind.i64.wrap (gP m k + x.2) := by unfold gP at hg ⊢; rw [hg]; rfl
        rw [hg, hg2]
        have ha : anyK k.1.2 (x :: r) = true := by show (decide (x.1 = k.1.2) || anyK k.1.2 r) = true; rw [decide_eq_true e]; rfl
        rw [if_pos ha]
        show _ = some (IntKind.i64.wrap (gP m k + ((if x.1 = k.1.2 then x.2 else 0) + sumK k.1.2 r)))
        rw [if_pos e]
        cases hr : anyK k.1.2 r
        · rw [if_neg (by simp), sumK_none hr, Int.add_zero]
        · rw [if_pos rfl, wrap_wrap, Int.add_assoc]
      · have ek : ¬ (⟨(part, x.1), h⟩ : Kp) = k := fun q => e (by rw [← q])
        have hg : getA ((⟨(part, x.1), h⟩, IntKind.i64.wrap (gP m ⟨(part, x.1), h⟩ + x.2)) :: m) k = getA m k := by
          show (if (⟨(part, x.1), h⟩ : Kp) = k then _ else getA m k) = _
          rw [if_neg ek]
        have hg2 : gP ((⟨(part, x.1), h⟩, IntKind.i64.wrap (gP m ⟨(part, x.1), h⟩ + x.2)) :: m) k = gP m k := by
          show (getA _ k).getD 0 = (getA m k).getD 0
          rw [hg]
        rw [hg, hg2]
        have ha : anyK k.1.2 (x :: r) = anyK k.1.2 r := by show (decide (x.1 = k.1.2) || anyK k.1.2 r) = _; rw [decide_eq_false e]; rfl
        have hs : sumK k.1.2 (x :: r) = sumK k.1.2 r := by show (if x.1 = k.1.2 then x.2 else 0) + sumK k.1.2 r = _; rw [if_neg e]; omega
        rw [ha, hs]
    · rw [addP_skip h, addP_same hk r]
      have e : ¬ x.1 = k.1.2 := fun q => h ⟨by rw [← hk]; exact k.2.1, by rw [q]; exact k.2.2⟩
      have ha : anyK k.1.2 (x :: r) = anyK k.1.2 r := by show (decide (x.1 = k.1.2) || anyK k.1.2 r) = _; rw [decide_eq_false e]; rfl
      have hs : sumK k.1.2 (x :: r) = sumK k.1.2 r := by show (if x.1 = k.1.2 then x.2 else 0) + sumK k.1.2 r = _; rw [if_neg e]; omega
      rw [ha, hs]
/-- An item, cut in two. -/
def halI (x : It) : List It := [(x.1, Int.tdiv x.2 2), (x.1, x.2 - Int.tdiv x.2 2)]
/-- Items turned round, each cut in two. -/
def halL : List It → List It
  | [] => []
  | x :: r => halL r ++ halI x
theorem halL_len : ∀ l : List It, (halL l).length = 2 * l.length
  | [] => rfl
  | x :: r => by
    show (halL r ++ halI x).length = _
    rw [List.length_append, halL_len r, List.length_cons]
    show 2 * r.length + 2 = _
    omega
theorem halL_any (c : ByteArray) : ∀ l : List It, anyK c (halL l) = anyK c l
  | [] => rfl
  | x :: r => by
    show anyK c (halL r ++ halI x) = (decide (x.1 = c) || anyK c r)
    rw [anyK_app, halL_any c r]
    show (anyK c r || (decide (x.1 = c) || (decide (x.1 = c) || false))) = _
    cases anyK c r <;> cases decide (x.1 = c) <;> rfl
theorem halL_sumK (c : ByteArray) : ∀ l : List It, sumK c (halL l) = sumK c l
  | [] => rfl
  | x :: r => by
    show sumK c (halL r ++ halI x) = (if x.1 = c then x.2 else 0) + sumK c r
    rw [sumK_app, halL_sumK c r]
    show sumK c r + ((if x.1 = c then Int.tdiv x.2 2 else 0) + ((if x.1 = c then x.2 - Int.tdiv x.2 2 else 0) + 0)) = _
    split <;> omega
theorem halL_sumI : ∀ l : List It, sumI (halL l) = sumI l
  | [] => rfl
  | x :: r => by
    show sumI (halL r ++ halI x) = sumI (x :: r)
    rw [sumI_app, halL_sumI r, sumI_cons]
    show sumI r + (Int.tdiv x.2 2 + (x.2 - Int.tdiv x.2 2 + 0)) = _
    omega
theorem tdiv2 (x : Int) : (0 ≤ x → Int.tdiv x 2 = x / 2) ∧ (x < 0 → Int.tdiv x 2 = -((-x) / 2)) := by
  refine ⟨fun h => Int.tdiv_eq_ediv_of_nonneg h, fun h => ?_⟩
  have h1 : Int.tdiv (-x) 2 = (-x) / 2 := Int.tdiv_eq_ediv_of_nonneg (by omega)
  rw [Int.neg_tdiv] at h1
  omega
def SmallI (l : List It) : Prop := ∀ x ∈ l, -1099511627776 ≤ x.2 ∧ x.2 ≤ 1099511627776
theorem halL_mem {z : It} : ∀ {l : List It}, z ∈ halL l ↔ ∃ x ∈ l, z ∈ halI x
  | [] => by simp [halL]
  | x :: r => by
    show z ∈ halL r ++ halI x ↔ _
    rw [List.mem_append, halL_mem (l := r)]
    simp only [List.mem_cons]
    constructor
    · rintro (⟨y, h1, h2⟩ | h)
      · exact ⟨y, .inr h1, h2⟩
      · exact ⟨x, .inl rfl, h⟩
    · rintro ⟨y, rfl | h1, h2⟩
      · exact .inr h2
      · exact .inl ⟨y, h1, h2⟩
theorem halI_small {x z : It} (hx : -1099511627776 ≤ x.2 ∧ x.2 ≤ 1099511627776) (hz : z ∈ halI x) : z.1 = x.1 ∧ -1099511627776 ≤ z.2 ∧ z.2 ≤ 1099511627776 := by
  have ht := tdiv2 x.2
  unfold halI at hz
  simp only [List.mem_cons, List.not_mem_nil, or_false] at hz
  rcases hz with rfl | rfl
  · refine ⟨rfl, ?_⟩
    simp only []
    omega
  · refine ⟨rfl, ?_⟩
    simp only []
    omega
theorem halL_small {l : List It} (h : SmallI l) : SmallI (halL l) := fun z hz => by
  obtain ⟨x, hx, hz⟩ := halL_mem.1 hz
  exact (halI_small (h x hx) hz).2
theorem itmGo_iff {le : Int} : ∀ {l : List It}, itmGo le l = 0 ↔ ∀ x ∈ l, nmB x.1 = true ∧ ¬ x.2 < le ∧ fitB x.2 = true
  | [] => by simp [itmGo]
  | x :: r => by
    unfold itmGo
    constructor
    · intro h
      split at h
      · cases h
      rename_i h1
      split at h
      · cases h
      rename_i h2
      split at h
      · cases h
      rename_i h3
      intro z hz
      rcases List.mem_cons.1 hz with rfl | hz
      · exact ⟨by simpa using h1, h2, by simpa using h3⟩
      · exact itmGo_iff.1 h z hz
    · intro h
      obtain ⟨a, b, c⟩ := h x List.mem_cons_self
      rw [if_neg (by rw [a]; simp), if_neg b, if_neg (by rw [c]; simp)]
      exact itmGo_iff.2 fun z hz => h z (List.mem_cons_of_mem _ hz)
theorem fitB_small {c : Int} (h : -1099511627776 ≤ c ∧ c ≤ 1099511627776) : fitB c = true := by
  unfold fitB
  exact decide_eq_true (by omega)
theorem halL_itm {l : List It} (h : SmallI l) (hn : l.length ≤ 30) : itmE (-1125899906842624) l = 0 ↔ itmE (-1125899906842624) (halL l) = 0 := by
  unfold itmE
  rw [if_neg (by omega), if_neg (by rw [halL_len]; omega), itmGo_iff, itmGo_iff]
  constructor
  · intro g z hz
    obtain ⟨x, hx, hz⟩ := halL_mem.1 hz
    have hs := halI_small (h x hx) hz
    exact ⟨by rw [hs.1]; exact (g x hx).1, by omega, fitB_small hs.2⟩
  · intro g x hx
    have hz : (x.1, Int.tdiv x.2 2) ∈ halL l := halL_mem.2 ⟨x, hx, by unfold halI; simp⟩
    have := h x hx
    exact ⟨(g _ hz).1, by omega, fitB_small this⟩
theorem sumC_small : ∀ (l : List It) (a : Int), SmallI l → -(1125899906842624 : Int) ≤ a - l.length * 1099511627776 → a + l.length * 1099511627776 ≤ 1125899906842624 → sumC a (l.map Prod.snd) = (a + sumI l, 0)
  | [], a, _, _, _ => by show (a, (0 : Int)) = (a + 0, 0); rw [Int.add_zero]
  | x :: r, a, h, h1, h2 => by
    have hx := h x List.mem_cons_self
    simp only [List.length_cons] at h1 h2
    have ht : toldR a x.2 (a + x.2) = (a + x.2, 0) := by
      unfold toldR
      rw [if_neg, if_neg]
      · rw [show fitB (a + x.2) = true from decide_eq_true (by omega)]; simp
      · rw [show fitB a = true from decide_eq_true (by omega), fitB_small hx]; simp
    show (if (toldR a x.2 (a + x.2)).2 = 0 then sumC (toldR a x.2 (a + x.2)).1 (r.map Prod.snd) else _) = _
    rw [ht, if_pos rfl]
    show sumC (a + x.2) (r.map Prod.snd) = _
    rw [sumC_small r (a + x.2) (fun z hz => h z (List.mem_cons_of_mem _ hz)) (by omega) (by omega), sumI_cons, Int.add_assoc]
theorem leftP0 : ∀ (l : List It) (a : Int), leftP 0 a l = a
  | [], _ => rfl
  | x :: r, a => by
    show leftP 0 (if (0 : Int) = 0 ∨ (0 : Int) = 6 then a else IntKind.i64.wrap (a - x.2)) r = a
    rw [if_pos (.inl rfl)]
    exact leftP0 r a
/-- Months that are alike but for gross items that come to the same. -/
structure GrR (M M' : Mon) : Prop where
  f : M' = { M with gr := M'.gr }
  ch : itmE (-1125899906842624) M.gr = 0 → itmE (-1125899906842624) M'.gr = 0
  sm : sumC 0 (M.gr.map Prod.snd) = sumC 0 (M'.gr.map Prod.snd)
  ln : ∀ k, getA (addP 0 [] M.gr) k = getA (addP 0 [] M'.gr) k
structure RelE (d e : Sd) : Prop where
  S : d.S = e.S
  g : d.g = e.g
  b : d.b = e.b
  l : d.l = e.l
  ln : ∀ k : Kp, getA d.ln k = getA e.ln k
theorem ext_all {part : Int} {l : List It} {m m' : Ass Kp Int} (h : ∀ k, getA m k = getA m' k) (k : Kp) : getA (addP part m l) k = getA (addP part m' l) k := addP_ext (p := fun _ => True) l m m' (fun k _ => h k) k trivial
theorem order_step {S S' : Ste} {M M' : Mon} {y i : Int} {L : List Li} (hR : GrR M M') (h : stepM S M = (S', (y, i, L), 0)) : stepM S M' = (S', (y, i, L), 0) := by
  obtain ⟨f, ch, sm, ln⟩ := hR
  generalize M'.gr = gr' at f ch sm ln
  subst f
  have k := step_ok h
  have c0 : chkM S { M with gr := gr' } = 0 := by
    have hc := k.ch
    unfold chkM at hc ⊢
    split at hc
    · cases hc
    rename_i h1
    rw [if_neg h1]
    split at hc
    · cases hc
    rename_i h2
    have h2' : ¬ (0 < S.i ∧ folB S { M with gr := gr' } = false) := h2
    rw [if_neg h2']
    split at hc
    · rename_i h3; exact absurd hc h3
    · rename_i h3
      rw [if_neg (by rw [ch (by simpa using h3)]; simp)]
      exact hc
  have r1 : RelE (d1 S M) (d1 S { M with gr := gr' }) := by
    refine ⟨rfl, ?_, ?_, ?_, ln⟩
    · show (sumC 0 (M.gr.map Prod.snd)).1 = (sumC 0 (gr'.map Prod.snd)).1
      rw [sm]
    · show (sumC 0 (M.gr.map Prod.snd)).1 = (sumC 0 (gr'.map Prod.snd)).1
      rw [sm]
    · show leftP 0 (sumC 0 (M.gr.map Prod.snd)).1 M.gr = leftP 0 (sumC 0 (gr'.map Prod.snd)).1 gr'
      rw [leftP0, leftP0, sm]
  have q1 : (pf1 { M with gr := gr' } (d0 S { M with gr := gr' })).2 = 0 := by
    have := k.e1
    show (sumC 0 (gr'.map Prod.snd)).2 = 0
    rw [← sm]
    exact this
  generalize hM : ({ M with gr := gr' } : Mon) = M1 at c0 r1 q1 ⊢
  have f1 : M1.be = M.be := by rw [← hM]
  have f2 : M1.li = M.li := by rw [← hM]
  have f3 : M1.sc = M.sc := by rw [← hM]
  have f4 : M1.i = M.i := by rw [← hM]
  have f5 : M1.o = M.o := by rw [← hM]
  have f6 : M1.al = M.al := by rw [← hM]
  have f7 : M1.ex = M.ex := by rw [← hM]
  have f8 : M1.ba = M.ba := by rw [← hM]
  have f9 : M1.af = M.af := by rw [← hM]
  have f10 : M1.od = M.od := by rw [← hM]
  have f11 : M1.y = M.y := by rw [← hM]
  have t2 : takeL (d1 S M).g (d1 S M).S.be M.be M.li = takeL (d1 S M1).g (d1 S M1).S.be M1.be M1.li := by rw [r1.g, r1.S, f1, f2]
  have q2 : (pf2 M1 (d1 S M1)).2 = 0 := by
    show (takeL (d1 S M1).g (d1 S M1).S.be M1.be M1.li).2.2 = 0
    rw [← t2]; exact k.e2
  have r2 : RelE (d2 S M) (d2 S M1) := by
    refine ⟨?_, r1.g, ?_, ?_, ?_⟩
    · have e1 : (d2 S M).S = { (d1 S M).S with be := (takeL (d1 S M).g (d1 S M).S.be M.be M.li).2.1 } := rfl
      have e2 : (d2 S M1).S = { (d1 S M1).S with be := (takeL (d1 S M1).g (d1 S M1).S.be M1.be M1.li).2.1 } := rfl
      rw [e1, e2, t2, r1.S]
    · show leftP 1 _ (takeL _ _ _ _).1 = leftP 1 _ (takeL _ _ _ _).1
      rw [t2, r1.b]
    · show leftP 1 _ (takeL _ _ _ _).1 = leftP 1 _ (takeL _ _ _ _).1
      rw [t2, r1.l]
    · show ∀ k : Kp, getA (addP 1 _ (takeL _ _ _ _).1) k = getA (addP 1 _ (takeL _ _ _ _).1) k
      rw [t2]
      exact ext_all r1.ln
  have t3 : socL (d2 S M).S.so (d2 S M).g M.sc = socL (d2 S M1).S.so (d2 S M1).g M1.sc := by rw [r2.g, r2.S, f3]
  have q3 : (pf3 M1 (d2 S M1)).2 = 0 := by
    show (socL (d2 S M1).S.so (d2 S M1).g M1.sc).2.2.2 = 0
    rw [← t3]; exact k.e3
  have r3 : RelE (d3 S M) (d3 S M1) := by
    refine ⟨?_, r2.g, r2.b, ?_, ?_⟩
    · have e1 : (d3 S M).S = { (d2 S M).S with so := (socL (d2 S M).S.so (d2 S M).g M.sc).1 } := rfl
      have e2 : (d3 S M1).S = { (d2 S M1).S with so := (socL (d2 S M1).S.so (d2 S M1).g M1.sc).1 } := rfl
      rw [e1, e2, t3, r2.S]
    · show leftP 6 (leftP 2 _ (socL _ _ _).2.1) (socL _ _ _).2.2.1 = leftP 6 (leftP 2 _ (socL _ _ _).2.1) (socL _ _ _).2.2.1
      rw [t3, r2.l]
    · show ∀ k : Kp, getA (addP 6 (addP 2 _ (socL _ _ _).2.1) (socL _ _ _).2.2.1) k = getA (addP 6 (addP 2 _ (socL _ _ _).2.1) (socL _ _ _).2.2.1) k
      rw [t3]
      exact ext_all (ext_all r2.ln)
  have t4 : Tx.stepV (d3 S M).S.tb (d3 S M).S.tt (d3 S M).b M.i M.o M.al M.ex M.ba = Tx.stepV (d3 S M1).S.tb (d3 S M1).S.tt (d3 S M1).b M1.i M1.o M1.al M1.ex M1.ba := by rw [r3.S, r3.b, f4, f5, f6, f7, f8]
  have q4 : (pf4 M1 (d3 S M1)).2 = 0 := by
    show (Tx.stepV (d3 S M1).S.tb (d3 S M1).S.tt (d3 S M1).b M1.i M1.o M1.al M1.ex M1.ba).2.2 = 0
    rw [← t4]; exact k.e4
  have r4 : RelE (d4 S M) (d4 S M1) := by
    refine ⟨?_, r3.g, r3.b, ?_, ?_⟩
    · have e1 : (d4 S M).S = { (d3 S M).S with tb := (Tx.stepV (d3 S M).S.tb (d3 S M).S.tt (d3 S M).b M.i M.o M.al M.ex M.ba).1.1, tt := (Tx.stepV (d3 S M).S.tb (d3 S M).S.tt (d3 S M).b M.i M.o M.al M.ex M.ba).1.2 } := rfl
      have e2 : (d4 S M1).S = { (d3 S M1).S with tb := (Tx.stepV (d3 S M1).S.tb (d3 S M1).S.tt (d3 S M1).b M1.i M1.o M1.al M1.ex M1.ba).1.1, tt := (Tx.stepV (d3 S M1).S.tb (d3 S M1).S.tt (d3 S M1).b M1.i M1.o M1.al M1.ex M1.ba).1.2 } := rfl
      rw [e1, e2, t4, r3.S]
    · show leftP 3 _ [(taxS, (Tx.stepV _ _ _ _ _ _ _ _).2.1)] = leftP 3 _ [(taxS, (Tx.stepV _ _ _ _ _ _ _ _).2.1)]
      rw [t4, r3.l]
    · show ∀ k : Kp, getA (addP 3 _ [(taxS, (Tx.stepV _ _ _ _ _ _ _ _).2.1)]) k = getA (addP 3 _ [(taxS, (Tx.stepV _ _ _ _ _ _ _ _).2.1)]) k
      rw [t4]
      exact ext_all r3.ln
  have t5 : afterL (d4 S M).l M.af = afterL (d4 S M1).l M1.af := by rw [r4.l, f9]
  have r5 : RelE (d5 S M) (d5 S M1) := by
    refine ⟨r4.S, r4.g, r4.b, ?_, ?_⟩
    · show leftP 4 _ (afterL _ _).1 = leftP 4 _ (afterL _ _).1
      rw [t5, r4.l]
    · show ∀ k : Kp, getA (addP 4 _ (afterL _ _).1) k = getA (addP 4 _ (afterL _ _).1) k
      rw [t5]
      exact ext_all r4.ln
  have t6 : attL (d5 S M).l (d5 S M).S.od M.od = attL (d5 S M1).l (d5 S M1).S.od M1.od := by rw [r5.l, r5.S, f10]
  have q6 : (pf6 M1 (d5 S M1)).2 = 0 := by
    show (attL (d5 S M1).l (d5 S M1).S.od M1.od).2.2 = 0
    rw [← t6]; exact k.e6
  have r6 : RelE (d6 S M) (d6 S M1) := by
    refine ⟨?_, r5.g, r5.b, ?_, ?_⟩
    · have e1 : (d6 S M).S = { (d5 S M).S with od := (attL (d5 S M).l (d5 S M).S.od M.od).2.1 } := rfl
      have e2 : (d6 S M1).S = { (d5 S M1).S with od := (attL (d5 S M1).l (d5 S M1).S.od M1.od).2.1 } := rfl
      rw [e1, e2, t6, r5.S]
    · show leftP 5 _ (attL _ _ _).1 = leftP 5 _ (attL _ _ _).1
      rw [t6, r5.l]
    · show ∀ k : Kp, getA (addP 5 _ (attL _ _ _).1) k = getA (addP 5 _ (attL _ _ _).1) k
      rw [t6]
      exact ext_all r5.ln
  have hl := k.ok
  rw [k.yy, k.ii, ← f11, ← f4] at hl
  rw [step_of c0 q1 q2 q3 q4 q6 (by rw [← slpR_ext r6.ln]; exact k.sl) hl, ← r6.S, ← k.st, f11, f4, ← k.yy, ← k.ii]
def hal (M : Mon) : Mon := { M with gr := halL M.gr }
theorem hal_rel {M : Mon} (h : SmallI M.gr) (hn : M.gr.length ≤ 30) : GrR M (hal M) ∧ GrR (hal M) M := by
  have hi := halL_itm h hn
  have hs : sumC 0 (M.gr.map Prod.snd) = sumC 0 ((halL M.gr).map Prod.snd) := by
    rw [sumC_small M.gr 0 h (by omega) (by omega), sumC_small (halL M.gr) 0 (halL_small h) (by rw [halL_len]; omega) (by rw [halL_len]; omega), halL_sumI]
  have hk : ∀ k, getA (addP 0 [] M.gr) k = getA (addP 0 [] (halL M.gr)) k := fun k => by
    by_cases hp : k.1.1 = 0
    · rw [addP_same hp, addP_same hp, halL_any, halL_sumK]
    · rw [addP_oth hp, addP_oth hp]
  exact ⟨⟨rfl, hi.1, hs, hk⟩, ⟨rfl, hi.2, hs.symm, fun k => (hk k).symm⟩⟩
theorem order_eq {S : Ste} {M : Mon} (h : SmallI M.gr) (hn : M.gr.length ≤ 30) : ((stepM S M).2.2 = 0 ↔ (stepM S (hal M)).2.2 = 0) ∧ ((stepM S M).2.2 = 0 → stepM S (hal M) = stepM S M) := by
  obtain ⟨r1, r2⟩ := hal_rel h hn
  have a : (stepM S M).2.2 = 0 → stepM S (hal M) = stepM S M := fun e => by
    generalize hq : stepM S M = q at e
    obtain ⟨S', ⟨y, i, L⟩, e'⟩ := q
    simp only at e
    subst e
    exact order_step r1 hq
  refine ⟨⟨fun e => by rw [a e]; exact e, fun e => ?_⟩, a⟩
  have b : stepM S M = stepM S (hal M) := by
    generalize hq : stepM S (hal M) = q at e
    obtain ⟨S', ⟨y, i, L⟩, e'⟩ := q
    simp only at e
    subst e
    exact order_step r2 hq
  rw [b]
  exact e
theorem order_go (S0 : Ste) : ∀ (l : List Mon) (S : Ste) (out : List Slp), (∀ M ∈ l, SmallI M.gr ∧ M.gr.length ≤ 30) → ((resGo S0 S out l).2.2 = 0 ↔ (resGo S0 S out (l.map hal)).2.2 = 0) ∧ (resGo S0 S out l).1 = (resGo S0 S out (l.map hal)).1 ∧ (resGo S0 S out l).2.1 = (resGo S0 S out (l.map hal)).2.1
  | [], S, out, _ => ⟨Iff.rfl, rfl, rfl⟩
  | M :: r, S, out, h => by
    obtain ⟨hm, hn⟩ := h M List.mem_cons_self
    obtain ⟨a, b⟩ := order_eq (S := S) hm hn
    rw [List.map_cons, resGo_cons, resGo_cons]
    by_cases h0 : (stepM S M).2.2 = 0
    · rw [if_neg (by rw [h0]; simp), if_neg (by rw [a.1 h0]; simp), b h0]
      exact order_go S0 r _ _ fun M' hM' => h M' (List.mem_cons_of_mem _ hM')
    · have h1 : (stepM S (hal M)).2.2 ≠ 0 := fun e => h0 (a.2 e)
      rw [if_pos h0, if_pos h1]
      exact ⟨⟨fun e => absurd e h0, fun e => absurd e h1⟩, rfl, rfl⟩
theorem order_fold (l : List Mon) (h : ∀ M ∈ l, SmallI M.gr ∧ M.gr.length ≤ 30) : ((foldM l).2.2 = 0 ↔ (foldM (l.map hal)).2.2 = 0) ∧ (foldM l).1 = (foldM (l.map hal)).1 ∧ (foldM l).2.1 = (foldM (l.map hal)).2.1 := by
  unfold foldM resM
  rw [List.length_map]
  split
  · exact ⟨Iff.rfl, rfl, rfl⟩
  · exact order_go _ l _ _ h
end Go.Proofs.YtgepbkldgnjpfaaGreatDoor
