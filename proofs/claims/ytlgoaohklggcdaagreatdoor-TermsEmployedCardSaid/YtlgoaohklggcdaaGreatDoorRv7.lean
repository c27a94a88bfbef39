/- The reference's reading of a week. -/
import Derived.Test.YtlgoaohklggcdaaGreatDoorImps
import Derived.Test.YtlgoaohklggcdaaGreatDoorWeek
import Derived.Test.YtlgoaohklggcdaaGreatDoorRda
import Derived.Deep.Cut
import Derived.Deep.CutRange
namespace Go.Proofs.YtlgoaohklggcdaaGreatDoor
open Go.RowKit Go.Sort

/-- What the reference's loop holds behind k bytes. -/
structure Wr (l : List UInt8) (k : Nat) (I : List (List UInt8)) (z : List UInt8) : Prop where
  eq : pieces 32 (l.take k) = I ++ [z]
  ok : I.all okP = true
  dig : z.all digC = true
  len : I.length ≤ 7
  suf : ∃ pre, l.take k = pre ++ z
section
variable {l z : List UInt8} {k : Nat} {I : List (List UInt8)} {b : UInt8}
theorem Wr.start (l : List UInt8) : Wr l 0 [] [] := ⟨rfl, rfl, rfl, by simp, [], rfl⟩
theorem Wr.at_ (h : Wr l k I z) (hk : k ≤ l.length) {fr : Nat} (hf : fr + z.length = k) {x : UInt8} (hx : z.head? = some x) : l[fr]? = some x := by
  obtain ⟨pre, hp⟩ := h.suf
  have h1 := congrArg List.length hp
  rw [List.length_take, List.length_append] at h1
  have h2 : pre.length = fr := by omega
  obtain ⟨y, r, rfl⟩ : ∃ y r, z = y :: r := by
    cases z with
    | nil => simp at hx
    | cons y r => exact ⟨y, r, rfl⟩
  have h3 : (l.take k)[fr]? = some x := by rw [hp, ← h2]; simpa using hx
  rw [List.getElem?_take] at h3
  split at h3
  · exact h3
  · cases h3
theorem Wr.split (h : Wr l k I z) (hb : l[k]? = some b) : ∃ h' t, pieces 32 (b :: l.drop (k + 1)) = h' :: t ∧ pieces 32 l = I ++ (z ++ h') :: t := by
  obtain ⟨hlt, hb'⟩ := List.getElem?_eq_some_iff.1 hb
  have hl : l = l.take k ++ b :: l.drop (k + 1) := by
    conv => lhs; rw [← List.take_append_drop k l]
    rw [List.drop_eq_getElem_cons hlt, hb']
  obtain ⟨I', z', h', t, h1, h2, h3⟩ := pieces_append 32 (l.take k) (b :: l.drop (k + 1))
  rw [h.eq] at h1
  obtain ⟨rfl, e2⟩ := List.append_inj' h1 rfl
  cases e2
  exact ⟨h', t, h2, by rw [← h3, ← hl]⟩
/-- The field z is ended by a blank, or by the end. -/
theorem Wr.ended (h : Wr l k I z) (hb : l[k]? = some 32 ∨ k = l.length) : ∃ t, pieces 32 l = I ++ z :: t := by
  rcases hb with hb | rfl
  · obtain ⟨h', t, h1, h2⟩ := h.split hb
    unfold pieces at h1
    rw [if_pos rfl] at h1
    cases h1
    exact ⟨_, by rw [h2, List.append_nil]⟩
  · have := h.eq
    rw [List.take_length] at this
    exact ⟨[], this⟩
theorem Wr.bad_end (h : Wr l k I z) (hb : l[k]? = some 32 ∨ k = l.length) (hz : okP z = false) : weekE l = 3 := by
  obtain ⟨t, ht⟩ := h.ended hb
  exact week_bad (p := z) (by rw [ht]; simp) hz
theorem Wr.bad_many (h : Wr l k I z) (hb : l[k]? = some 32 ∨ k = l.length) (hI : 6 < I.length) : weekE l = 3 := by
  obtain ⟨t, ht⟩ := h.ended hb
  refine weekE_form (fun ⟨_, h3⟩ => ?_)
  rw [ht, List.length_append, List.length_cons] at h3
  omega
theorem Wr.bad_more (h : Wr l k I z) (hb : l[k]? = some b) (hI : 6 < I.length) : weekE l = 3 := by
  obtain ⟨h', t, _, ht⟩ := h.split hb
  refine weekE_form (fun ⟨_, h3⟩ => ?_)
  rw [ht, List.length_append, List.length_cons] at h3
  omega
theorem Wr.digit (h : Wr l k I z) (hb : l[k]? = some b) (hd : digC b = true) : Wr l (k + 1) I (z ++ [b]) := by
  have hne : b ≠ 32 := by intro e; subst e; revert hd; decide
  refine ⟨?_, h.ok, ?_, h.len, ?_⟩
  · rw [List.take_add_one, hb]
    exact pieces_snoc h.eq hne
  · rw [List.all_append, h.dig]; simp [hd]
  · obtain ⟨pre, hp⟩ := h.suf
    exact ⟨pre, by rw [List.take_add_one, hb, hp]; simp⟩
theorem Wr.sep (h : Wr l k I z) (hb : l[k]? = some 32) (hz : okP z = true) (hI : I.length ≤ 6) : Wr l (k + 1) (I ++ [z]) [] := by
  refine ⟨?_, ?_, rfl, by simp; omega, l.take (k + 1), by simp⟩
  · rw [List.take_add_one, hb]
    show pieces 32 (l.take k ++ [32]) = _
    rw [pieces_snoc_sep, h.eq]
  · rw [List.all_append, h.ok]; simp [hz]
theorem Wr.fin (h : Wr l l.length I z) (hz : okP z = true) : pieces 32 l = I ++ [z] ∧ (I ++ [z]).all okP = true := by
  have he := h.eq
  rw [List.take_length] at he
  exact ⟨he, by rw [List.all_append, h.ok]; simp [hz]⟩
end
def bigB (I : List (List UInt8)) : Bool := I.any fun w => decide (1440 < numL 0 w)
theorem week_fin {l : List UInt8} {I : List (List UInt8)} (h1 : pieces 32 l = I) (h2 : I.all okP = true) : weekE l = if I.length ≠ 7 then 3 else if bigB I = true then 2 else 0 := by
  by_cases h7 : I.length = 7
  · rw [if_neg (by simpa using h7), weekE_right (by rw [h1]; exact h2) (by rw [h1]; exact h7), h1]
    by_cases hb : bigB I = true
    · rw [if_pos hb, if_neg]
      intro h
      unfold bigB at hb
      obtain ⟨w, hw, hw2⟩ := List.any_eq_true.1 hb
      have := List.all_eq_true.1 h w hw
      simp at hw2 this; omega
    · rw [if_neg hb, if_pos]
      rw [List.all_eq_true]
      intro w hw
      refine decide_eq_true ?_
      rcases Nat.lt_or_ge 1440 (numL 0 w) with h | h
      · exact absurd (List.any_eq_true.2 ⟨w, hw, decide_eq_true h⟩) hb
      · exact h
  · rw [if_pos h7]
    exact weekE_form (fun h => h7 (by rw [← h1]; exact h.2))
theorem bigB_snoc (I : List (List UInt8)) (z : List UInt8) : bigB (I ++ [z]) = (bigB I || decide (1440 < min (numL 0 z) 100000)) := by
  unfold bigB
  rw [List.any_append]
  congr 1
  simp only [List.any_cons, List.any_nil, Bool.or_false]
  exact decide_eq_decide.2 (by omega)
theorem okP_iff {z : List UInt8} (hd : z.all digC = true) : okP z = false ↔ z = [] ∨ (z.head? = some 48 ∧ 1 < z.length) := by
  unfold okP neat
  rw [hd]
  match z with
  | [] => simp
  | [x] => simp
  | x :: y :: r => simp
/-- Seven cells of numbers; those ahead of at' are the words', that at at' is v, those behind it are nought. -/
def Wcells (cs : Array Value) (I : List (List UInt8)) (at' : Nat) (v : Int) : Prop := cs.size = 7 ∧ (∀ j, j < 7 → ∃ x, cs[j]? = some (.int .i64 x)) ∧ (at' < 7 → cs[at']? = some (.int .i64 v)) ∧ (∀ j, at' < j → j < 7 → cs[j]? = some (.int .i64 0)) ∧ ∀ j w, j < 7 → I[j]? = some w → cs[j]? = some (.int .i64 ((min (numL 0 w) 100000 : Nat) : Int))
theorem Wcells.put {cs : Array Value} {I : List (List UInt8)} {at' : Nat} {v : Int} (h : Wcells cs I at' v) (u : Int) (ha : at' < 7) (hI : at' = I.length) : Wcells (cs.setIfInBounds at' (.int .i64 u)) I at' u := by
  obtain ⟨h1, h2, h3, h4, h5⟩ := h
  refine ⟨by simpa using h1, fun j hj => ?_, fun _ => ?_, fun j hj hj7 => ?_, fun j w hj hw => ?_⟩
  · rw [Array.getElem?_setIfInBounds]
    split
    · rename_i he; subst he; rw [if_pos (by omega)]; exact ⟨u, rfl⟩
    · exact h2 j hj
  · rw [Array.getElem?_setIfInBounds, if_pos rfl, if_pos (by omega)]
  · rw [Array.getElem?_setIfInBounds, if_neg (by omega)]; exact h4 j hj hj7
  · have := (List.getElem?_eq_some_iff.1 hw).1
    rw [Array.getElem?_setIfInBounds, if_neg (by omega)]; exact h5 j w hj hw
theorem Wcells.next {cs : Array Value} {I : List (List UInt8)} {z : List UInt8} {at' : Nat} (h : Wcells cs I at' ((min (numL 0 z) 100000 : Nat) : Int)) (hI : at' = I.length) : Wcells cs (I ++ [z]) (at' + 1) 0 := by
  obtain ⟨h1, h2, h3, h4, h5⟩ := h
  refine ⟨h1, h2, fun ha => h4 (at' + 1) (by omega) ha, fun j hj hj7 => h4 j (by omega) hj7, fun j w hj hw => ?_⟩
  by_cases hjl : j < I.length
  · rw [List.getElem?_append_left hjl] at hw
    exact h5 j w hj hw
  · rw [List.getElem?_append_right (by omega)] at hw
    have hj0 : j = I.length := by
      have := (List.getElem?_eq_some_iff.1 hw).1
      simp at this; omega
    rw [hj0, Nat.sub_self] at hw
    have hwz : w = z := by simpa using hw.symm
    rw [hj0, ← hI, hwz]
    exact h3 (by omega)
theorem week_val {l : List UInt8} {I : List (List UInt8)} {cs : Array Value} (hp : pieces 32 l = I) (h7 : I.length = 7) (hb : bigB I = false) (h0 : weekE l = 0) {at' : Nat} {v : Int} (hc : Wcells cs I at' v) {j : Nat} (hj : j < 7) {x : Int} (hx : cs[j]? = some (.int .i64 x)) : (weekV l).getD j 0 = x := by
  obtain ⟨w, hw⟩ : ∃ w, I[j]? = some w := ⟨_, List.getElem?_eq_getElem (by omega)⟩
  have h1 := hc.2.2.2.2 j w hj hw
  rw [hx] at h1
  injection h1 with h1
  injection h1 with _ h1
  have h2 : numL 0 w ≤ 1440 := by
    rcases Nat.lt_or_ge 1440 (numL 0 w) with h | h
    · have : bigB I = true := List.any_eq_true.2 ⟨w, List.mem_of_getElem? hw, decide_eq_true h⟩
      rw [this] at hb; cases hb
    · exact h
  unfold weekV
  rw [if_pos h0, hp, List.getD_eq_getElem?_getD, List.getElem?_map, hw, h1]
  show (numL 0 w : Int) = _
  omega
theorem sat5 (x d : Nat) : min (10 * min x 100000 + d) 100000 = min (10 * x + d) 100000 := by omega
theorem numL_snoc (z : List UInt8) (b : UInt8) : numL 0 (z ++ [b]) = 10 * numL 0 z + (b.toNat - 48) := by rw [numL_append, numL_cons', numL_nil']
/-- What the loop of the reference's Parse keeps. -/
def R7 (l : List UInt8) (k at' fr : Nat) (bg : Bool) (w0 wr : World) (rb wb : Nat) : Prop :=
  (∃ r0, Bk rb 47 r0 wr ∧ r0.size = 7 ∧ ∀ j, j < 7 → ∃ x, r0[j]? = some (.int .i64 x)) ∧ Below w0.heap.size w0 wr ∧
  ∃ (I : List (List UInt8)) (z : List UInt8) (cs : Array Value), Bk wb 47 cs wr ∧ at' = I.length ∧ bg = bigB I ∧
    ((k ≤ l.length ∧ Wr l k I z ∧ fr + z.length = k ∧ Wcells cs I at' (min (numL 0 z) 100000 : Nat)) ∨ (k = l.length + 1 ∧ pieces 32 l = I ∧ I.all okP = true ∧ I.length ≤ 7 ∧ Wcells cs I at' 0))
theorem arr7 (a0 a1 a2 a3 a4 a5 a6 u0 u1 u2 u3 u4 u5 u6 : Value) : (((((((#[a0, a1, a2, a3, a4, a5, a6] : Array Value).setIfInBounds 0 u0).setIfInBounds 1 u1).setIfInBounds 2 u2).setIfInBounds 3 u3).setIfInBounds 4 u4).setIfInBounds 5 u5).setIfInBounds 6 u6 = #[u0, u1, u2, u3, u4, u5, u6] := by
  apply Array.toList_inj.1
  simp only [Array.toList_setIfInBounds, List.set_cons_zero, List.set_cons_succ]
theorem bk7 {w : World} {rb : Nat} {t : TypeId} {r0 : Array Value} (h : Bk rb t r0 w) (h7 : r0.size = 7) (u0 u1 u2 u3 u4 u5 u6 : Value) :
    Bk rb t #[u0, u1, u2, u3, u4, u5, u6] (((((((w.setCell ⟨rb, 0, none⟩ u0).setCell ⟨rb, 1, none⟩ u1).setCell ⟨rb, 2, none⟩ u2).setCell ⟨rb, 3, none⟩ u3).setCell ⟨rb, 4, none⟩ u4).setCell ⟨rb, 5, none⟩ u5).setCell ⟨rb, 6, none⟩ u6) := by
  obtain ⟨l⟩ := r0
  have hl : l.length = 7 := by simpa using h7
  obtain ⟨a0, a1, a2, a3, a4, a5, a6, rfl⟩ : ∃ a0 a1 a2 a3 a4 a5 a6, l = [a0, a1, a2, a3, a4, a5, a6] := by
    match l, hl with
    | [a0, a1, a2, a3, a4, a5, a6], _ => exact ⟨a0, a1, a2, a3, a4, a5, a6, rfl⟩
  have h2 := ((((((Bk.set_ h 0 u0).set_ 1 u1).set_ 2 u2).set_ 3 u3).set_ 4 u4).set_ 5 u5).set_ 6 u6
  rw [← arr7 a0 a1 a2 a3 a4 a5 a6 u0 u1 u2 u3 u4 u5 u6]
  exact h2
theorem set7 {w0 w wz : World} {rb : Nat} {t : TypeId} {r0 : Array Value} (h : Bk rb t r0 w) (h7 : r0.size = 7) (hb : Below w0.heap.size w0 w) (hr : w0.heap.size ≤ rb) (u0 u1 u2 u3 u4 u5 u6 : Value)
    (hz : ((((((w.setCell ⟨rb, 0, none⟩ u0).setCell ⟨rb, 1, none⟩ u1).setCell ⟨rb, 2, none⟩ u2).setCell ⟨rb, 3, none⟩ u3).setCell ⟨rb, 4, none⟩ u4).setCell ⟨rb, 5, none⟩ u5).setCell ⟨rb, 6, none⟩ u6 = wz) :
    Bk rb t #[u0, u1, u2, u3, u4, u5, u6] wz ∧ Below w0.heap.size w0 wz := by
  subst hz
  exact ⟨bk7 h h7 u0 u1 u2 u3 u4 u5 u6, ((((((hb.setCell (p := ⟨rb, 0, none⟩) hr _).setCell (p := ⟨rb, 1, none⟩) hr _).setCell (p := ⟨rb, 2, none⟩) hr _).setCell (p := ⟨rb, 3, none⟩) hr _).setCell (p := ⟨rb, 4, none⟩) hr _).setCell (p := ⟨rb, 5, none⟩) hr _).setCell (p := ⟨rb, 6, none⟩) hr _⟩
theorem R7.drew {l : List UInt8} {k at' fr : Nat} {bg : Bool} {w0 wr : World} {rb wb : Nat} (h : R7 l k at' fr bg w0 wr rb wb) : R7 l k at' fr bg w0 wr.drew rb wb := by
  obtain ⟨h1, h2, I, z, cs, h3, h4⟩ := h
  exact ⟨h1, bTrans h2 (bDrew _), I, z, cs, h3, h4⟩
def wkR7 (l : List UInt8) (e : Ending) : Prop := e = .returned (weekR l)
set_option maxHeartbeats 4000000 in
set_option maxRecDepth 100000 in
theorem r7_Parse (s : ByteArray) (w : World) (hs : s.size ≤ 1000000) : Calls Tryz.prog 61 #[.string s] w fun e w' => wkR7 (ls s) e ∧ Below w.heap.size w w' := by
  obtain ⟨rb, hrb⟩ : ∃ x, w.heap.size = x := ⟨_, rfl⟩
  obtain ⟨wb, hwb⟩ : ∃ x, rb + 1 = x := ⟨_, rfl⟩
  obtain ⟨w2, hw2⟩ : ∃ x, (w.alloc (.cells #[.int .i64 0, .int .i64 0, .int .i64 0, .int .i64 0, .int .i64 0, .int .i64 0, .int .i64 0] 47)).alloc (.cells #[.int .i64 0, .int .i64 0, .int .i64 0, .int .i64 0, .int .i64 0, .int .i64 0, .int .i64 0] 47) = x := ⟨_, rfl⟩
  have hbk : Bk rb 47 #[.int .i64 0, .int .i64 0, .int .i64 0, .int .i64 0, .int .i64 0, .int .i64 0, .int .i64 0] w2 ∧ Bk wb 47 #[.int .i64 0, .int .i64 0, .int .i64 0, .int .i64 0, .int .i64 0, .int .i64 0, .int .i64 0] w2 ∧ Below w.heap.size w w2 := bk2 w _ _ _ hrb hwb hw2
  have hz7 : ∀ j, j < 7 → (#[.int .i64 0, .int .i64 0, .int .i64 0, .int .i64 0, .int .i64 0, .int .i64 0, .int .i64 0] : Array Value)[j]? = some (.int .i64 0) := fun j hj => by
    have : j = 0 ∨ j = 1 ∨ j = 2 ∨ j = 3 ∨ j = 4 ∨ j = 5 ∨ j = 6 := by omega
    rcases this with rfl | rfl | rfl | rfl | rfl | rfl | rfl <;> rfl
  have HR0 : Hid (R7 (ls s) 0 0 0 false w w2 rb wb) := Lib.hid ⟨⟨_, hbk.1, rfl, fun j hj => ⟨0, hz7 j hj⟩⟩, hbk.2.2, [], [], _, hbk.2.1, rfl, rfl, .inl ⟨Nat.zero_le _, Wr.start _, rfl, rfl, fun j hj => ⟨0, hz7 j hj⟩, fun h => hz7 0 h, fun j _ hj => hz7 j hj, fun j w _ h => by simp at h⟩⟩
  have HRB : Hid (w.heap.size ≤ rb ∧ w.heap.size ≤ wb ∧ rb ≠ wb) := Lib.hid (by omega)
  have HE := Lib.hid (And.intro hrb (And.intro hwb hw2))
  have hls := ls_len s
  have HLS := Lib.hid hls
  clear hrb hwb hw2 hbk hz7 hls
  go_enter Tryz.func61, Tryz.ntmps61
  go_upto_region 2 with fail
  rw [HE.out.1, HE.out.2.1, HE.out.2.2]
  go_wp2
  go_loopw [5, 6, 7, 8] (fun av fv bv iv wr => ∃ (k at' fr : Nat) (bg : Bool), k ≤ s.size + 1 ∧ at' ≤ 8 ∧ fr ≤ 1000002 ∧ av = .int .i64 at' ∧ fv = .int .i64 fr ∧ bv = .bool bg ∧ iv = .int .i64 k ∧ Hid (R7 (ls s) k at' fr bg w wr rb wb)) (fun _ _ _ iv _ => s.size + 1 - (intOf iv).toNat)
  case atStart => exact ⟨0, 0, 0, false, Nat.zero_le _, by omega, by omega, rfl, rfl, rfl, rfl, HR0⟩
  case round =>
    obtain ⟨k, at', fr, bg, hk, hat, hfr, rfl, rfl, rfl, rfl, HR⟩ := hrel
    obtain ⟨⟨r0, hr0, hr7, hri⟩, hB, I, z, cs, hcs, hatI, hbg, hcase⟩ := HR.out
    have HCS := Lib.hid hcs
    have HB := Lib.hid hB
    have HR0 := Lib.hid (And.intro hr0 (And.intro hr7 hri))
    obtain ⟨y0, e0⟩ := hri 0 (by omega)
    obtain ⟨y1, e1⟩ := hri 1 (by omega)
    obtain ⟨y2, e2⟩ := hri 2 (by omega)
    obtain ⟨y3, e3⟩ := hri 3 (by omega)
    obtain ⟨y4, e4⟩ := hri 4 (by omega)
    obtain ⟨y5, e5⟩ := hri 5 (by omega)
    obtain ⟨y6, e6⟩ := hri 6 (by omega)
    have R0 : wr.cell? ⟨rb, 0, none⟩ = some (.int .i64 y0) := (hr0.cell 0).trans e0
    have R1 : wr.cell? ⟨rb, 1, none⟩ = some (.int .i64 y1) := (hr0.cell 1).trans e1
    have R2 : wr.cell? ⟨rb, 2, none⟩ = some (.int .i64 y2) := (hr0.cell 2).trans e2
    have R3 : wr.cell? ⟨rb, 3, none⟩ = some (.int .i64 y3) := (hr0.cell 3).trans e3
    have R4 : wr.cell? ⟨rb, 4, none⟩ = some (.int .i64 y4) := (hr0.cell 4).trans e4
    have R5 : wr.cell? ⟨rb, 5, none⟩ = some (.int .i64 y5) := (hr0.cell 5).trans e5
    have R6 : wr.cell? ⟨rb, 6, none⟩ = some (.int .i64 y6) := (hr0.cell 6).trans e6
    have S0 : wr.frozen? ⟨rb, 0, none⟩ = false := hr0.frozen 0
    have S1 : wr.frozen? ⟨rb, 1, none⟩ = false := hr0.frozen 1
    have S2 : wr.frozen? ⟨rb, 2, none⟩ = false := hr0.frozen 2
    have S3 : wr.frozen? ⟨rb, 3, none⟩ = false := hr0.frozen 3
    have S4 : wr.frozen? ⟨rb, 4, none⟩ = false := hr0.frozen 4
    have S5 : wr.frozen? ⟨rb, 5, none⟩ = false := hr0.frozen 5
    have S6 : wr.frozen? ⟨rb, 6, none⟩ = false := hr0.frozen 6
    clear e0 e1 e2 e3 e4 e5 e6 hri hr7 hr0 hB hcs HR
    by_cases hkn : k ≤ s.size
    · obtain ⟨hk2, hW, hfz, hcw⟩ : k ≤ (ls s).length ∧ Wr (ls s) k I z ∧ fr + z.length = k ∧ Wcells cs I at' (min (numL 0 z) 100000 : Nat) := by
        rcases hcase with h | ⟨h, _⟩
        · exact h
        · rw [HLS.out] at h; omega
      have HW := Lib.hid hW
      have HFZ := Lib.hid hfz
      have HCW := Lib.hid hcw
      have HAI := Lib.hid hatI
      have HBG := Lib.hid hbg
      clear hk2 hW hfz hcw hatI hbg hcase
      by_cases hlt : k < s.size
      · obtain ⟨b, hb, hbb⟩ := byte_some hlt
        have hra := run_at (P := Tryz.prog) 9 Tryz.underlying9 s k hlt
        rw [hbb] at hra
        have HBY := Lib.hid hb
        clear hb hbb
        by_cases hb32 : b = 32
        · have d1 : ((b.toNat : Int) != 32) = false := by subst hb32; rfl
          have HEND : Hid ((ls s)[k]? = some 32 ∨ k = (ls s).length) := Lib.hid (.inl (by rw [HBY.out, hb32]))
          clear hb32
          by_cases hz : z = []
          · have d2 : ((k : Int) == (fr : Int)) = true := by
              have := HFZ.out
              rw [hz] at this; simp at this; simp; omega
            have HF : Hid (weekE (ls s) = 3) := Lib.hid (HW.out.bad_end HEND.out ((okP_iff HW.out.dig).2 (.inl hz)))
            clear hz
            obtain ⟨wz, hwz⟩ : ∃ x, ((((((wr.setCell ⟨rb, 0, none⟩ (.int .i64 0)).setCell ⟨rb, 1, none⟩ (.int .i64 0)).setCell ⟨rb, 2, none⟩ (.int .i64 0)).setCell ⟨rb, 3, none⟩ (.int .i64 0)).setCell ⟨rb, 4, none⟩ (.int .i64 0)).setCell ⟨rb, 5, none⟩ (.int .i64 0)).setCell ⟨rb, 6, none⟩ (.int .i64 0) = x := ⟨_, rfl⟩
            have HZ := Lib.hid (set7 HR0.out.1 HR0.out.2.1 HB.out HRB.out.1 _ _ _ _ _ _ _ hwz)
            have HZE := Lib.hid hwz
            clear hwz
            go_wp2
            rw [HZE.out]
            have z0 : wz.cell? ⟨rb, 0, none⟩ = some (.int .i64 0) := HZ.out.1.cell 0
            have z1 : wz.cell? ⟨rb, 1, none⟩ = some (.int .i64 0) := HZ.out.1.cell 1
            have z2 : wz.cell? ⟨rb, 2, none⟩ = some (.int .i64 0) := HZ.out.1.cell 2
            have z3 : wz.cell? ⟨rb, 3, none⟩ = some (.int .i64 0) := HZ.out.1.cell 3
            have z4 : wz.cell? ⟨rb, 4, none⟩ = some (.int .i64 0) := HZ.out.1.cell 4
            have z5 : wz.cell? ⟨rb, 5, none⟩ = some (.int .i64 0) := HZ.out.1.cell 5
            have z6 : wz.cell? ⟨rb, 6, none⟩ = some (.int .i64 0) := HZ.out.1.cell 6
            exact bodyPost_ret (v := .tuple #[.agg #[.int .i64 0, .int .i64 0, .int .i64 0, .int .i64 0, .int .i64 0, .int .i64 0, .int .i64 0], .int .i64 3]) (by simp [results, Tryz.results61, go_sem, z0, z1, z2, z3, z4, z5, z6]) rfl ⟨weekR_bad HF.out (by decide), HZ.out.2⟩
          · have hzl : 0 < z.length := List.length_pos_iff.2 hz
            have hfk : fr < k := by have := HFZ.out; omega
            have d2 : ((k : Int) == (fr : Int)) = false := by simp; omega
            obtain ⟨x, hx⟩ : ∃ x, z.head? = some x := by
              cases z with
              | nil => exact absurd rfl hz
              | cons x r => exact ⟨x, rfl⟩
            have hlx := HW.out.at_ (by rw [HLS.out]; exact hkn) HFZ.out hx
            obtain ⟨x', hx', hxx⟩ := byte_some (s := s) (k := fr) (by omega)
            have hrf := run_at (P := Tryz.prog) 9 Tryz.underlying9 s fr (by omega)
            obtain rfl : x' = x := by rw [hlx] at hx'; exact (Option.some.inj hx').symm
            rw [hxx] at hrf
            have w1 : IntKind.i64.wrap ((fr : Int) + 1) = (fr : Int) + 1 := IntWalk.i64_in _ (by omega)
            obtain ⟨nt, hnt⟩ : ∃ v, okP z = v := ⟨_, rfl⟩
            have HNT := Lib.hid hnt
            have HIF := Lib.hid (okP_iff HW.out.dig)
            have HHX := Lib.hid hx
            have HZN := Lib.hid hz
            clear hlx hx' hxx hnt hx hz
            go_upto_region 10 with fail
            obtain ⟨sx, hsx⟩ : ∃ v, (!nt || decide (6 < at')) = v := ⟨_, rfl⟩
            have HSX := Lib.hid hsx
            have hd5 : decide ((6 : Int) < (at' : Int)) = decide (6 < at') := decide_eq_decide.2 (by omega)
            obtain ⟨a6, ha6⟩ : ∃ v, decide (6 < at') = v := ⟨_, rfl⟩
            rw [ha6] at hd5 HSX
            have HA6 := Lib.hid ha6
            clear hsx ha6
            go_cut [71] from 53 to 71 (fun q wx => q = .bool sx ∧ wr = wx)
            case first =>
              by_cases h48 : x' = 48
              · have d3 : ((x'.toNat : Int) == 48) = true := by subst h48; rfl
                by_cases hl : 1 < z.length
                · have d4 : decide ((fr : Int) + 1 < (k : Int)) = true := decide_eq_true (by have := HFZ.out; omega)
                  have HV : Hid (nt = false) := Lib.hid (by rw [← HNT.out]; exact HIF.out.2 (.inr ⟨by rw [HHX.out, h48], hl⟩))
                  clear h48 hl
                  go_wp2
                  go_meet
                  exact ⟨by rw [← HSX.out, HV.out]; rfl, rfl⟩
                · have d4 : decide ((fr : Int) + 1 < (k : Int)) = false := decide_eq_false (by have := HFZ.out; omega)
                  have HV : Hid (nt = true) := Lib.hid (by
                    cases hq : nt with
                    | true => rfl
                    | false =>
                      rw [hq] at HNT
                      rcases HIF.out.1 HNT.out with h | h
                      · exact absurd h HZN.out
                      · exact absurd h.2 hl)
                  clear h48 hl
                  go_wp2
                  go_meet
                  exact ⟨by rw [← HSX.out, HV.out]; simp, rfl⟩
              · have d3 : ((x'.toNat : Int) == 48) = false := by
                  have : x'.toNat ≠ 48 := fun h => h48 (UInt8.toNat_inj.1 h)
                  simp; omega
                have HV : Hid (nt = true) := Lib.hid (by
                  cases hq : nt with
                  | true => rfl
                  | false =>
                    rw [hq] at HNT
                    rcases HIF.out.1 HNT.out with h | h
                    · exact absurd h HZN.out
                    · rw [HHX.out] at h; exact absurd (Option.some.inj h.1) h48)
                clear h48
                go_wp2
                go_meet
                exact ⟨by rw [← HSX.out, HV.out]; simp, rfl⟩
            case rest =>
            obtain ⟨rfl, rfl⟩ := hcut
            clear hrf w1 hd5
            cases sx with
            | true =>
              have HF : Hid (weekE (ls s) = 3) := Lib.hid (by
                have h := HSX.out
                cases nt with
                | false => exact HW.out.bad_end HEND.out HNT.out
                | true =>
                  cases a6 with
                  | false => simp at h
                  | true => exact HW.out.bad_many HEND.out (by rw [← HAI.out]; exact of_decide_eq_true HA6.out))
              obtain ⟨wz, hwz⟩ : ∃ x, ((((((wr.setCell ⟨rb, 0, none⟩ (.int .i64 0)).setCell ⟨rb, 1, none⟩ (.int .i64 0)).setCell ⟨rb, 2, none⟩ (.int .i64 0)).setCell ⟨rb, 3, none⟩ (.int .i64 0)).setCell ⟨rb, 4, none⟩ (.int .i64 0)).setCell ⟨rb, 5, none⟩ (.int .i64 0)).setCell ⟨rb, 6, none⟩ (.int .i64 0) = x := ⟨_, rfl⟩
              have HZ := Lib.hid (set7 HR0.out.1 HR0.out.2.1 HB.out HRB.out.1 _ _ _ _ _ _ _ hwz)
              have HZE := Lib.hid hwz
              clear hwz
              go_wp2
              rw [HZE.out]
              have z0 : wz.cell? ⟨rb, 0, none⟩ = some (.int .i64 0) := HZ.out.1.cell 0
              have z1 : wz.cell? ⟨rb, 1, none⟩ = some (.int .i64 0) := HZ.out.1.cell 1
              have z2 : wz.cell? ⟨rb, 2, none⟩ = some (.int .i64 0) := HZ.out.1.cell 2
              have z3 : wz.cell? ⟨rb, 3, none⟩ = some (.int .i64 0) := HZ.out.1.cell 3
              have z4 : wz.cell? ⟨rb, 4, none⟩ = some (.int .i64 0) := HZ.out.1.cell 4
              have z5 : wz.cell? ⟨rb, 5, none⟩ = some (.int .i64 0) := HZ.out.1.cell 5
              have z6 : wz.cell? ⟨rb, 6, none⟩ = some (.int .i64 0) := HZ.out.1.cell 6
              exact bodyPost_ret (v := .tuple #[.agg #[.int .i64 0, .int .i64 0, .int .i64 0, .int .i64 0, .int .i64 0, .int .i64 0, .int .i64 0], .int .i64 3]) (by simp [results, Tryz.results61, go_sem, z0, z1, z2, z3, z4, z5, z6]) rfl ⟨weekR_bad HF.out (by decide), HZ.out.2⟩
            | false =>
              obtain rfl : nt = true := by
                have h := HSX.out
                cases nt with
                | true => rfl
                | false => simp at h
              have hat6 : at' ≤ 6 := by
                have h := HSX.out
                cases a6 with
                | true => simp at h
                | false => have := of_decide_eq_false HA6.out; omega
              obtain ⟨q, hq⟩ : ∃ q : Nat, min (numL 0 z) 100000 = q := ⟨_, rfl⟩
              obtain ⟨bg', hbg'⟩ : ∃ v, bigB (I ++ [z]) = v := ⟨_, rfl⟩
              have hbb := bigB_snoc I z
              rw [hbg', ← HBG.out, hq] at hbb
              have hq5 : q ≤ 100000 := by omega
              have hcell : wr.cell? ⟨wb, at', none⟩ = some (.int .i64 q) := by
                rw [Bk.cell HCS.out, HCW.out.2.2.1 (by omega), hq]
              have hat7i : (at' : Int) < 7 := by omega
              have w2 : IntKind.i64.wrap ((at' : Int) + 1) = (at' : Int) + 1 := IntWalk.i64_in _ (by omega)
              have w3 : IntKind.i64.wrap ((k : Int) + 1) = (k : Int) + 1 := IntWalk.i64_in _ (by omega)
              have HNX : Hid (R7 (ls s) (k + 1) (at' + 1) (k + 1) bg' w wr rb wb) := Lib.hid (by
                refine ⟨⟨_, HR0.out.1, HR0.out.2⟩, HB.out, ?_⟩
                have hnx : Wcells cs (I ++ [z]) (at' + 1) 0 := HCW.out.next HAI.out
                rcases HEND.out with he | he
                · exact ⟨I ++ [z], [], cs, HCS.out, by rw [List.length_append, ← HAI.out]; rfl, hbg'.symm, .inl ⟨by have := (List.getElem?_eq_some_iff.1 he).1; omega, HW.out.sep he HNT.out (by rw [← HAI.out]; exact hat6), by simp, hnx⟩⟩
                · have hw2 := HW.out
                  rw [he] at hw2
                  obtain ⟨h1, h2⟩ := hw2.fin HNT.out
                  exact ⟨I ++ [z], [], cs, HCS.out, by rw [List.length_append, ← HAI.out]; rfl, hbg'.symm, .inr ⟨by rw [he], h1, h2, by rw [List.length_append, ← HAI.out]; simp; omega, hnx⟩⟩)
              cases bg with
              | true =>
                obtain rfl : bg' = true := by simpa using hbb
                clear hbb hbg' hq hcell
                go_wp2
                exact ⟨⟨k + 1, at' + 1, k + 1, true, by omega, by omega, by omega, by go_num, by go_num, rfl, by go_num, HNX⟩, by simp [intOf]; omega⟩
              | false =>
                have d6 : decide ((1440 : Int) < (q : Int)) = bg' := by
                  rw [hbb, Bool.false_or]
                  exact decide_eq_decide.2 (by omega)
                clear hbb hbg' hq
                go_wp2
                exact ⟨⟨k + 1, at' + 1, k + 1, bg', by omega, by omega, by omega, by go_num, by go_num, rfl, by go_num, HNX⟩, by simp [intOf]; omega⟩
        · have d1 : ((b.toNat : Int) != 32) = true := by
            have : b.toNat ≠ 32 := fun h => hb32 (UInt8.toNat_inj.1 h)
            simp; omega
          by_cases h48 : b.toNat < 48
          · have d2 : decide ((b.toNat : Int) < 48) = true := decide_eq_true (by omega)
            have HF : Hid (weekE (ls s) = 3) := Lib.hid (Wk.bad_byte HBY.out (by unfold digC; exact decide_eq_false (by omega)) hb32)
            clear hb32
            obtain ⟨wz, hwz⟩ : ∃ x, ((((((wr.setCell ⟨rb, 0, none⟩ (.int .i64 0)).setCell ⟨rb, 1, none⟩ (.int .i64 0)).setCell ⟨rb, 2, none⟩ (.int .i64 0)).setCell ⟨rb, 3, none⟩ (.int .i64 0)).setCell ⟨rb, 4, none⟩ (.int .i64 0)).setCell ⟨rb, 5, none⟩ (.int .i64 0)).setCell ⟨rb, 6, none⟩ (.int .i64 0) = x := ⟨_, rfl⟩
            have HZ := Lib.hid (set7 HR0.out.1 HR0.out.2.1 HB.out HRB.out.1 _ _ _ _ _ _ _ hwz)
            have HZE := Lib.hid hwz
            clear hwz
            go_wp2
            rw [HZE.out]
            have z0 : wz.cell? ⟨rb, 0, none⟩ = some (.int .i64 0) := HZ.out.1.cell 0
            have z1 : wz.cell? ⟨rb, 1, none⟩ = some (.int .i64 0) := HZ.out.1.cell 1
            have z2 : wz.cell? ⟨rb, 2, none⟩ = some (.int .i64 0) := HZ.out.1.cell 2
            have z3 : wz.cell? ⟨rb, 3, none⟩ = some (.int .i64 0) := HZ.out.1.cell 3
            have z4 : wz.cell? ⟨rb, 4, none⟩ = some (.int .i64 0) := HZ.out.1.cell 4
            have z5 : wz.cell? ⟨rb, 5, none⟩ = some (.int .i64 0) := HZ.out.1.cell 5
            have z6 : wz.cell? ⟨rb, 6, none⟩ = some (.int .i64 0) := HZ.out.1.cell 6
            exact bodyPost_ret (v := .tuple #[.agg #[.int .i64 0, .int .i64 0, .int .i64 0, .int .i64 0, .int .i64 0, .int .i64 0, .int .i64 0], .int .i64 3]) (by simp [results, Tryz.results61, go_sem, z0, z1, z2, z3, z4, z5, z6]) rfl ⟨weekR_bad HF.out (by decide), HZ.out.2⟩
          · have d2 : decide ((b.toNat : Int) < 48) = false := decide_eq_false (by omega)
            by_cases h57 : 57 < b.toNat
            · have d3 : decide ((57 : Int) < (b.toNat : Int)) = true := decide_eq_true (by omega)
              have HF : Hid (weekE (ls s) = 3) := Lib.hid (Wk.bad_byte HBY.out (by unfold digC; exact decide_eq_false (by omega)) hb32)
              clear hb32
              obtain ⟨wz, hwz⟩ : ∃ x, ((((((wr.setCell ⟨rb, 0, none⟩ (.int .i64 0)).setCell ⟨rb, 1, none⟩ (.int .i64 0)).setCell ⟨rb, 2, none⟩ (.int .i64 0)).setCell ⟨rb, 3, none⟩ (.int .i64 0)).setCell ⟨rb, 4, none⟩ (.int .i64 0)).setCell ⟨rb, 5, none⟩ (.int .i64 0)).setCell ⟨rb, 6, none⟩ (.int .i64 0) = x := ⟨_, rfl⟩
              have HZ := Lib.hid (set7 HR0.out.1 HR0.out.2.1 HB.out HRB.out.1 _ _ _ _ _ _ _ hwz)
              have HZE := Lib.hid hwz
              clear hwz
              go_wp2
              rw [HZE.out]
              have z0 : wz.cell? ⟨rb, 0, none⟩ = some (.int .i64 0) := HZ.out.1.cell 0
              have z1 : wz.cell? ⟨rb, 1, none⟩ = some (.int .i64 0) := HZ.out.1.cell 1
              have z2 : wz.cell? ⟨rb, 2, none⟩ = some (.int .i64 0) := HZ.out.1.cell 2
              have z3 : wz.cell? ⟨rb, 3, none⟩ = some (.int .i64 0) := HZ.out.1.cell 3
              have z4 : wz.cell? ⟨rb, 4, none⟩ = some (.int .i64 0) := HZ.out.1.cell 4
              have z5 : wz.cell? ⟨rb, 5, none⟩ = some (.int .i64 0) := HZ.out.1.cell 5
              have z6 : wz.cell? ⟨rb, 6, none⟩ = some (.int .i64 0) := HZ.out.1.cell 6
              exact bodyPost_ret (v := .tuple #[.agg #[.int .i64 0, .int .i64 0, .int .i64 0, .int .i64 0, .int .i64 0, .int .i64 0, .int .i64 0], .int .i64 3]) (by simp [results, Tryz.results61, go_sem, z0, z1, z2, z3, z4, z5, z6]) rfl ⟨weekR_bad HF.out (by decide), HZ.out.2⟩
            · have d3 : decide ((57 : Int) < (b.toNat : Int)) = false := decide_eq_false (by omega)
              by_cases ha6 : 6 < at'
              · have d4 : decide ((6 : Int) < (at' : Int)) = true := decide_eq_true (by omega)
                have HF : Hid (weekE (ls s) = 3) := Lib.hid (HW.out.bad_more HBY.out (by rw [← HAI.out]; exact ha6))
                clear hb32
                obtain ⟨wz, hwz⟩ : ∃ x, ((((((wr.setCell ⟨rb, 0, none⟩ (.int .i64 0)).setCell ⟨rb, 1, none⟩ (.int .i64 0)).setCell ⟨rb, 2, none⟩ (.int .i64 0)).setCell ⟨rb, 3, none⟩ (.int .i64 0)).setCell ⟨rb, 4, none⟩ (.int .i64 0)).setCell ⟨rb, 5, none⟩ (.int .i64 0)).setCell ⟨rb, 6, none⟩ (.int .i64 0) = x := ⟨_, rfl⟩
                have HZ := Lib.hid (set7 HR0.out.1 HR0.out.2.1 HB.out HRB.out.1 _ _ _ _ _ _ _ hwz)
                have HZE := Lib.hid hwz
                clear hwz
                go_wp2
                rw [HZE.out]
                have z0 : wz.cell? ⟨rb, 0, none⟩ = some (.int .i64 0) := HZ.out.1.cell 0
                have z1 : wz.cell? ⟨rb, 1, none⟩ = some (.int .i64 0) := HZ.out.1.cell 1
                have z2 : wz.cell? ⟨rb, 2, none⟩ = some (.int .i64 0) := HZ.out.1.cell 2
                have z3 : wz.cell? ⟨rb, 3, none⟩ = some (.int .i64 0) := HZ.out.1.cell 3
                have z4 : wz.cell? ⟨rb, 4, none⟩ = some (.int .i64 0) := HZ.out.1.cell 4
                have z5 : wz.cell? ⟨rb, 5, none⟩ = some (.int .i64 0) := HZ.out.1.cell 5
                have z6 : wz.cell? ⟨rb, 6, none⟩ = some (.int .i64 0) := HZ.out.1.cell 6
                exact bodyPost_ret (v := .tuple #[.agg #[.int .i64 0, .int .i64 0, .int .i64 0, .int .i64 0, .int .i64 0, .int .i64 0, .int .i64 0], .int .i64 3]) (by simp [results, Tryz.results61, go_sem, z0, z1, z2, z3, z4, z5, z6]) rfl ⟨weekR_bad HF.out (by decide), HZ.out.2⟩
              · have d4 : decide ((6 : Int) < (at' : Int)) = false := decide_eq_false (by omega)
                have hdg : digC b = true := by unfold digC; exact decide_eq_true ⟨by omega, by omega⟩
                have HW2 := Lib.hid (HW.out.digit HBY.out hdg)
                obtain ⟨q, hq⟩ : ∃ q : Nat, min (numL 0 z) 100000 = q := ⟨_, rfl⟩
                have hq5 : q ≤ 100000 := by omega
                have hcell : wr.cell? ⟨wb, at', none⟩ = some (.int .i64 q) := by
                  rw [Bk.cell HCS.out, HCW.out.2.2.1 (by omega), hq]
                have hfro : wr.frozen? ⟨wb, at', none⟩ = false := Bk.frozen HCS.out _
                have hat7 : at' < 7 := by omega
                have hat7i : (at' : Int) < 7 := by omega
                obtain ⟨D, hD⟩ : ∃ D : Nat, b.toNat - 48 = D := ⟨_, rfl⟩
                have hD9 : D ≤ 9 := by omega
                have u1 : IntKind.i64.wrap (10 * (q : Int)) = 10 * (q : Int) := IntWalk.i64_in _ (by omega)
                have u2 : IntKind.u8.wrap ((b.toNat : Int) - 48) = (D : Int) := by rw [IntKind.wrap_u8]; omega
                have u3 : IntKind.i64.wrap (D : Int) = (D : Int) := IntWalk.i64_in _ (by omega)
                have u4 : IntKind.i64.wrap (10 * (q : Int) + D) = 10 * (q : Int) + D := IntWalk.i64_in _ (by omega)
                obtain ⟨Q, hQ⟩ : ∃ Q : Nat, min (10 * q + D) 100000 = Q := ⟨_, rfl⟩
                have u5 : min (10 * (q : Int) + D) 100000 = (Q : Int) := by omega
                have HNX : Hid (R7 (ls s) (k + 1) at' fr bg w (wr.setCell ⟨wb, at', none⟩ (.int .i64 Q)) rb wb) := Lib.hid (by
                  refine ⟨⟨_, (heap_setCell_other wr ⟨wb, at', none⟩ rb _ HRB.out.2.2).trans HR0.out.1, HR0.out.2⟩, HB.out.setCell (p := ⟨wb, at', none⟩) HRB.out.2.1 _, I, z ++ [b], _, Bk.set_ HCS.out at' _, HAI.out, HBG.out, .inl ⟨by rw [HLS.out]; omega, HW2.out, by rw [List.length_append]; have := HFZ.out; simp; omega, ?_⟩⟩
                  have h1 := HCW.out.put (Q : Int) (by omega) HAI.out
                  rw [numL_snoc, hD, ← sat5, hq, hQ]
                  exact h1)
                clear hb32 hdg hq hD hQ
                go_wp2
                go_region
                all_goals go_wp2
                all_goals exact ⟨⟨k + 1, at', fr, bg, by omega, hat, hfr, rfl, rfl, rfl, by go_num, Lib.hid HNX.out.drew⟩, by simp [intOf]; omega⟩
      · have hkz : k = s.size := by omega
        have HEND : Hid ((ls s)[k]? = some 32 ∨ k = (ls s).length) := Lib.hid (.inr (by rw [HLS.out]; exact hkz))
        clear hkz
        by_cases hz : z = []
        · have d2 : ((k : Int) == (fr : Int)) = true := by
            have := HFZ.out
            rw [hz] at this; simp at this; simp; omega
          have HF : Hid (weekE (ls s) = 3) := Lib.hid (HW.out.bad_end HEND.out ((okP_iff HW.out.dig).2 (.inl hz)))
          clear hz
          obtain ⟨wz, hwz⟩ : ∃ x, ((((((wr.setCell ⟨rb, 0, none⟩ (.int .i64 0)).setCell ⟨rb, 1, none⟩ (.int .i64 0)).setCell ⟨rb, 2, none⟩ (.int .i64 0)).setCell ⟨rb, 3, none⟩ (.int .i64 0)).setCell ⟨rb, 4, none⟩ (.int .i64 0)).setCell ⟨rb, 5, none⟩ (.int .i64 0)).setCell ⟨rb, 6, none⟩ (.int .i64 0) = x := ⟨_, rfl⟩
          have HZ := Lib.hid (set7 HR0.out.1 HR0.out.2.1 HB.out HRB.out.1 _ _ _ _ _ _ _ hwz)
          have HZE := Lib.hid hwz
          clear hwz
          go_wp2
          rw [HZE.out]
          have z0 : wz.cell? ⟨rb, 0, none⟩ = some (.int .i64 0) := HZ.out.1.cell 0
          have z1 : wz.cell? ⟨rb, 1, none⟩ = some (.int .i64 0) := HZ.out.1.cell 1
          have z2 : wz.cell? ⟨rb, 2, none⟩ = some (.int .i64 0) := HZ.out.1.cell 2
          have z3 : wz.cell? ⟨rb, 3, none⟩ = some (.int .i64 0) := HZ.out.1.cell 3
          have z4 : wz.cell? ⟨rb, 4, none⟩ = some (.int .i64 0) := HZ.out.1.cell 4
          have z5 : wz.cell? ⟨rb, 5, none⟩ = some (.int .i64 0) := HZ.out.1.cell 5
          have z6 : wz.cell? ⟨rb, 6, none⟩ = some (.int .i64 0) := HZ.out.1.cell 6
          exact bodyPost_ret (v := .tuple #[.agg #[.int .i64 0, .int .i64 0, .int .i64 0, .int .i64 0, .int .i64 0, .int .i64 0, .int .i64 0], .int .i64 3]) (by simp [results, Tryz.results61, go_sem, z0, z1, z2, z3, z4, z5, z6]) rfl ⟨weekR_bad HF.out (by decide), HZ.out.2⟩
        · have hzl : 0 < z.length := List.length_pos_iff.2 hz
          have hfk : fr < k := by have := HFZ.out; omega
          have d2 : ((k : Int) == (fr : Int)) = false := by simp; omega
          obtain ⟨x, hx⟩ : ∃ x, z.head? = some x := by
            cases z with
            | nil => exact absurd rfl hz
            | cons x r => exact ⟨x, rfl⟩
          have hlx := HW.out.at_ (by rw [HLS.out]; exact hkn) HFZ.out hx
          obtain ⟨x', hx', hxx⟩ := byte_some (s := s) (k := fr) (by omega)
          have hrf := run_at (P := Tryz.prog) 9 Tryz.underlying9 s fr (by omega)
          obtain rfl : x' = x := by rw [hlx] at hx'; exact (Option.some.inj hx').symm
          rw [hxx] at hrf
          have w1 : IntKind.i64.wrap ((fr : Int) + 1) = (fr : Int) + 1 := IntWalk.i64_in _ (by omega)
          obtain ⟨nt, hnt⟩ : ∃ v, okP z = v := ⟨_, rfl⟩
          have HNT := Lib.hid hnt
          have HIF := Lib.hid (okP_iff HW.out.dig)
          have HHX := Lib.hid hx
          have HZN := Lib.hid hz
          clear hlx hx' hxx hnt hx hz
          go_upto_region 10 with fail
          obtain ⟨sx, hsx⟩ : ∃ v, (!nt || decide (6 < at')) = v := ⟨_, rfl⟩
          have HSX := Lib.hid hsx
          have hd5 : decide ((6 : Int) < (at' : Int)) = decide (6 < at') := decide_eq_decide.2 (by omega)
          obtain ⟨a6, ha6⟩ : ∃ v, decide (6 < at') = v := ⟨_, rfl⟩
          rw [ha6] at hd5 HSX
          have HA6 := Lib.hid ha6
          clear hsx ha6
          go_cut [71] from 53 to 71 (fun q wx => q = .bool sx ∧ wr = wx)
          case first =>
            by_cases h48 : x' = 48
            · have d3 : ((x'.toNat : Int) == 48) = true := by subst h48; rfl
              by_cases hl : 1 < z.length
              · have d4 : decide ((fr : Int) + 1 < (k : Int)) = true := decide_eq_true (by have := HFZ.out; omega)
                have HV : Hid (nt = false) := Lib.hid (by rw [← HNT.out]; exact HIF.out.2 (.inr ⟨by rw [HHX.out, h48], hl⟩))
                clear h48 hl
                go_wp2
                go_meet
                exact ⟨by rw [← HSX.out, HV.out]; rfl, rfl⟩
              · have d4 : decide ((fr : Int) + 1 < (k : Int)) = false := decide_eq_false (by have := HFZ.out; omega)
                have HV : Hid (nt = true) := Lib.hid (by
                  cases hq : nt with
                  | true => rfl
                  | false =>
                    rw [hq] at HNT
                    rcases HIF.out.1 HNT.out with h | h
                    · exact absurd h HZN.out
                    · exact absurd h.2 hl)
                clear h48 hl
                go_wp2
                go_meet
                exact ⟨by rw [← HSX.out, HV.out]; simp, rfl⟩
            · have d3 : ((x'.toNat : Int) == 48) = false := by
                have : x'.toNat ≠ 48 := fun h => h48 (UInt8.toNat_inj.1 h)
                simp; omega
              have HV : Hid (nt = true) := Lib.hid (by
                cases hq : nt with
                | true => rfl
                | false =>
                  rw [hq] at HNT
                  rcases HIF.out.1 HNT.out with h | h
                  · exact absurd h HZN.out
                  · rw [HHX.out] at h; exact absurd (Option.some.inj h.1) h48)
              clear h48
              go_wp2
              go_meet
              exact ⟨by rw [← HSX.out, HV.out]; simp, rfl⟩
          case rest =>
          obtain ⟨rfl, rfl⟩ := hcut
          clear hrf w1 hd5
          cases sx with
          | true =>
            have HF : Hid (weekE (ls s) = 3) := Lib.hid (by
              have h := HSX.out
              cases nt with
              | false => exact HW.out.bad_end HEND.out HNT.out
              | true =>
                cases a6 with
                | false => simp at h
                | true => exact HW.out.bad_many HEND.out (by rw [← HAI.out]; exact of_decide_eq_true HA6.out))
            obtain ⟨wz, hwz⟩ : ∃ x, ((((((wr.setCell ⟨rb, 0, none⟩ (.int .i64 0)).setCell ⟨rb, 1, none⟩ (.int .i64 0)).setCell ⟨rb, 2, none⟩ (.int .i64 0)).setCell ⟨rb, 3, none⟩ (.int .i64 0)).setCell ⟨rb, 4, none⟩ (.int .i64 0)).setCell ⟨rb, 5, none⟩ (.int .i64 0)).setCell ⟨rb, 6, none⟩ (.int .i64 0) = x := ⟨_, rfl⟩
            have HZ := Lib.hid (set7 HR0.out.1 HR0.out.2.1 HB.out HRB.out.1 _ _ _ _ _ _ _ hwz)
            have HZE := Lib.hid hwz
            clear hwz
            go_wp2
            rw [HZE.out]
            have z0 : wz.cell? ⟨rb, 0, none⟩ = some (.int .i64 0) := HZ.out.1.cell 0
            have z1 : wz.cell? ⟨rb, 1, none⟩ = some (.int .i64 0) := HZ.out.1.cell 1
            have z2 : wz.cell? ⟨rb, 2, none⟩ = some (.int .i64 0) := HZ.out.1.cell 2
            have z3 : wz.cell? ⟨rb, 3, none⟩ = some (.int .i64 0) := HZ.out.1.cell 3
            have z4 : wz.cell? ⟨rb, 4, none⟩ = some (.int .i64 0) := HZ.out.1.cell 4
            have z5 : wz.cell? ⟨rb, 5, none⟩ = some (.int .i64 0) := HZ.out.1.cell 5
            have z6 : wz.cell? ⟨rb, 6, none⟩ = some (.int .i64 0) := HZ.out.1.cell 6
            exact bodyPost_ret (v := .tuple #[.agg #[.int .i64 0, .int .i64 0, .int .i64 0, .int .i64 0, .int .i64 0, .int .i64 0, .int .i64 0], .int .i64 3]) (by simp [results, Tryz.results61, go_sem, z0, z1, z2, z3, z4, z5, z6]) rfl ⟨weekR_bad HF.out (by decide), HZ.out.2⟩
          | false =>
            obtain rfl : nt = true := by
              have h := HSX.out
              cases nt with
              | true => rfl
              | false => simp at h
            have hat6 : at' ≤ 6 := by
              have h := HSX.out
              cases a6 with
              | true => simp at h
              | false => have := of_decide_eq_false HA6.out; omega
            obtain ⟨q, hq⟩ : ∃ q : Nat, min (numL 0 z) 100000 = q := ⟨_, rfl⟩
            obtain ⟨bg', hbg'⟩ : ∃ v, bigB (I ++ [z]) = v := ⟨_, rfl⟩
            have hbb := bigB_snoc I z
            rw [hbg', ← HBG.out, hq] at hbb
            have hq5 : q ≤ 100000 := by omega
            have hcell : wr.cell? ⟨wb, at', none⟩ = some (.int .i64 q) := by
              rw [Bk.cell HCS.out, HCW.out.2.2.1 (by omega), hq]
            have hat7i : (at' : Int) < 7 := by omega
            have w2 : IntKind.i64.wrap ((at' : Int) + 1) = (at' : Int) + 1 := IntWalk.i64_in _ (by omega)
            have w3 : IntKind.i64.wrap ((k : Int) + 1) = (k : Int) + 1 := IntWalk.i64_in _ (by omega)
            have HNX : Hid (R7 (ls s) (k + 1) (at' + 1) (k + 1) bg' w wr rb wb) := Lib.hid (by
              refine ⟨⟨_, HR0.out.1, HR0.out.2⟩, HB.out, ?_⟩
              have hnx : Wcells cs (I ++ [z]) (at' + 1) 0 := HCW.out.next HAI.out
              rcases HEND.out with he | he
              · exact ⟨I ++ [z], [], cs, HCS.out, by rw [List.length_append, ← HAI.out]; rfl, hbg'.symm, .inl ⟨by have := (List.getElem?_eq_some_iff.1 he).1; omega, HW.out.sep he HNT.out (by rw [← HAI.out]; exact hat6), by simp, hnx⟩⟩
              · have hw2 := HW.out
                rw [he] at hw2
                obtain ⟨h1, h2⟩ := hw2.fin HNT.out
                exact ⟨I ++ [z], [], cs, HCS.out, by rw [List.length_append, ← HAI.out]; rfl, hbg'.symm, .inr ⟨by rw [he], h1, h2, by rw [List.length_append, ← HAI.out]; simp; omega, hnx⟩⟩)
            cases bg with
            | true =>
              obtain rfl : bg' = true := by simpa using hbb
              clear hbb hbg' hq hcell
              go_wp2
              exact ⟨⟨k + 1, at' + 1, k + 1, true, by omega, by omega, by omega, by go_num, by go_num, rfl, by go_num, HNX⟩, by simp [intOf]; omega⟩
            | false =>
              have d6 : decide ((1440 : Int) < (q : Int)) = bg' := by
                rw [hbb, Bool.false_or]
                exact decide_eq_decide.2 (by omega)
              clear hbb hbg' hq
              go_wp2
              exact ⟨⟨k + 1, at' + 1, k + 1, bg', by omega, by omega, by omega, by go_num, by go_num, rfl, by go_num, HNX⟩, by simp [intOf]; omega⟩
    · have hk1 : k = s.size + 1 := by omega
      obtain ⟨hp, ho, hl7, hcw⟩ : pieces 32 (ls s) = I ∧ I.all okP = true ∧ I.length ≤ 7 ∧ Wcells cs I at' 0 := by
        rcases hcase with ⟨h, _⟩ | ⟨_, h⟩
        · rw [HLS.out] at h; omega
        · exact h
      have HWF := Lib.hid (week_fin hp ho)
      have HPI := Lib.hid hp
      have HCW := Lib.hid hcw
      have HAI := Lib.hid hatI
      have HBG := Lib.hid hbg
      clear hp ho hl7 hcw hatI hbg hcase hk1
      by_cases h7 : at' = 7
      · have d1 : ((at' : Int) != 7) = false := by simp [h7]
        have HI7 : Hid (¬ I.length ≠ 7) := Lib.hid (by rw [← HAI.out]; simpa using h7)
        clear h7
        cases bg with
        | true =>
          have HF : Hid (weekE (ls s) = 2) := Lib.hid (by rw [HWF.out, if_neg HI7.out, if_pos HBG.out.symm])
          obtain ⟨wz, hwz⟩ : ∃ x, ((((((wr.setCell ⟨rb, 0, none⟩ (.int .i64 0)).setCell ⟨rb, 1, none⟩ (.int .i64 0)).setCell ⟨rb, 2, none⟩ (.int .i64 0)).setCell ⟨rb, 3, none⟩ (.int .i64 0)).setCell ⟨rb, 4, none⟩ (.int .i64 0)).setCell ⟨rb, 5, none⟩ (.int .i64 0)).setCell ⟨rb, 6, none⟩ (.int .i64 0) = x := ⟨_, rfl⟩
          have HZ := Lib.hid (set7 HR0.out.1 HR0.out.2.1 HB.out HRB.out.1 _ _ _ _ _ _ _ hwz)
          have HZE := Lib.hid hwz
          clear hwz
          go_wp2
          rw [HZE.out]
          have z0 : wz.cell? ⟨rb, 0, none⟩ = some (.int .i64 0) := HZ.out.1.cell 0
          have z1 : wz.cell? ⟨rb, 1, none⟩ = some (.int .i64 0) := HZ.out.1.cell 1
          have z2 : wz.cell? ⟨rb, 2, none⟩ = some (.int .i64 0) := HZ.out.1.cell 2
          have z3 : wz.cell? ⟨rb, 3, none⟩ = some (.int .i64 0) := HZ.out.1.cell 3
          have z4 : wz.cell? ⟨rb, 4, none⟩ = some (.int .i64 0) := HZ.out.1.cell 4
          have z5 : wz.cell? ⟨rb, 5, none⟩ = some (.int .i64 0) := HZ.out.1.cell 5
          have z6 : wz.cell? ⟨rb, 6, none⟩ = some (.int .i64 0) := HZ.out.1.cell 6
          exact bodyPost_ret (v := .tuple #[.agg #[.int .i64 0, .int .i64 0, .int .i64 0, .int .i64 0, .int .i64 0, .int .i64 0, .int .i64 0], .int .i64 2]) (by simp [results, Tryz.results61, go_sem, z0, z1, z2, z3, z4, z5, z6]) rfl ⟨weekR_bad HF.out (by decide), HZ.out.2⟩
        | false =>
          have HF : Hid (weekE (ls s) = 0) := Lib.hid (by rw [HWF.out, if_neg HI7.out, ← HBG.out]; rfl)
          obtain ⟨x0, f0⟩ := HCW.out.2.1 0 (by omega)
          obtain ⟨x1, f1⟩ := HCW.out.2.1 1 (by omega)
          obtain ⟨x2, f2⟩ := HCW.out.2.1 2 (by omega)
          obtain ⟨x3, f3⟩ := HCW.out.2.1 3 (by omega)
          obtain ⟨x4, f4⟩ := HCW.out.2.1 4 (by omega)
          obtain ⟨x5, f5⟩ := HCW.out.2.1 5 (by omega)
          obtain ⟨x6, f6⟩ := HCW.out.2.1 6 (by omega)
          have F0 : wr.cell? ⟨wb, 0, none⟩ = some (.int .i64 x0) := (Bk.cell HCS.out 0).trans f0
          have F1 : wr.cell? ⟨wb, 1, none⟩ = some (.int .i64 x1) := (Bk.cell HCS.out 1).trans f1
          have F2 : wr.cell? ⟨wb, 2, none⟩ = some (.int .i64 x2) := (Bk.cell HCS.out 2).trans f2
          have F3 : wr.cell? ⟨wb, 3, none⟩ = some (.int .i64 x3) := (Bk.cell HCS.out 3).trans f3
          have F4 : wr.cell? ⟨wb, 4, none⟩ = some (.int .i64 x4) := (Bk.cell HCS.out 4).trans f4
          have F5 : wr.cell? ⟨wb, 5, none⟩ = some (.int .i64 x5) := (Bk.cell HCS.out 5).trans f5
          have F6 : wr.cell? ⟨wb, 6, none⟩ = some (.int .i64 x6) := (Bk.cell HCS.out 6).trans f6
          have HVAL : Hid (Ending.returned (.tuple #[.agg #[.int .i64 x0, .int .i64 x1, .int .i64 x2, .int .i64 x3, .int .i64 x4, .int .i64 x5, .int .i64 x6], .int .i64 0]) = .returned (weekR (ls s))) := Lib.hid (by
            have hv := fun j hj x hx => week_val HPI.out (by have := HI7.out; omega) HBG.out.symm HF.out HCW.out (j := j) hj (x := x) hx
            unfold weekR w7
            simp only [hv 0 (by omega) _ f0, hv 1 (by omega) _ f1, hv 2 (by omega) _ f2, hv 3 (by omega) _ f3, hv 4 (by omega) _ f4, hv 5 (by omega) _ f5, hv 6 (by omega) _ f6, HF.out])
          clear f0 f1 f2 f3 f4 f5 f6
          obtain ⟨wz, hwz⟩ : ∃ x, ((((((wr.setCell ⟨rb, 0, none⟩ (.int .i64 x0)).setCell ⟨rb, 1, none⟩ (.int .i64 x1)).setCell ⟨rb, 2, none⟩ (.int .i64 x2)).setCell ⟨rb, 3, none⟩ (.int .i64 x3)).setCell ⟨rb, 4, none⟩ (.int .i64 x4)).setCell ⟨rb, 5, none⟩ (.int .i64 x5)).setCell ⟨rb, 6, none⟩ (.int .i64 x6) = x := ⟨_, rfl⟩
          have HZ := Lib.hid (set7 HR0.out.1 HR0.out.2.1 HB.out HRB.out.1 _ _ _ _ _ _ _ hwz)
          have HZE := Lib.hid hwz
          clear hwz
          go_wp2
          rw [HZE.out]
          have z0 : wz.cell? ⟨rb, 0, none⟩ = some (.int .i64 x0) := HZ.out.1.cell 0
          have z1 : wz.cell? ⟨rb, 1, none⟩ = some (.int .i64 x1) := HZ.out.1.cell 1
          have z2 : wz.cell? ⟨rb, 2, none⟩ = some (.int .i64 x2) := HZ.out.1.cell 2
          have z3 : wz.cell? ⟨rb, 3, none⟩ = some (.int .i64 x3) := HZ.out.1.cell 3
          have z4 : wz.cell? ⟨rb, 4, none⟩ = some (.int .i64 x4) := HZ.out.1.cell 4
          have z5 : wz.cell? ⟨rb, 5, none⟩ = some (.int .i64 x5) := HZ.out.1.cell 5
          have z6 : wz.cell? ⟨rb, 6, none⟩ = some (.int .i64 x6) := HZ.out.1.cell 6
          exact bodyPost_ret (v := .tuple #[.agg #[.int .i64 x0, .int .i64 x1, .int .i64 x2, .int .i64 x3, .int .i64 x4, .int .i64 x5, .int .i64 x6], .int .i64 0]) (by simp [results, Tryz.results61, go_sem, z0, z1, z2, z3, z4, z5, z6]) rfl ⟨HVAL.out, HZ.out.2⟩
      · have d1 : ((at' : Int) != 7) = true := by simp; omega
        have HF : Hid (weekE (ls s) = 3) := Lib.hid (by rw [HWF.out, if_pos (by rw [← HAI.out]; exact h7)])
        clear h7
        obtain ⟨wz, hwz⟩ : ∃ x, ((((((wr.setCell ⟨rb, 0, none⟩ (.int .i64 0)).setCell ⟨rb, 1, none⟩ (.int .i64 0)).setCell ⟨rb, 2, none⟩ (.int .i64 0)).setCell ⟨rb, 3, none⟩ (.int .i64 0)).setCell ⟨rb, 4, none⟩ (.int .i64 0)).setCell ⟨rb, 5, none⟩ (.int .i64 0)).setCell ⟨rb, 6, none⟩ (.int .i64 0) = x := ⟨_, rfl⟩
        have HZ := Lib.hid (set7 HR0.out.1 HR0.out.2.1 HB.out HRB.out.1 _ _ _ _ _ _ _ hwz)
        have HZE := Lib.hid hwz
        clear hwz
        go_wp2
        rw [HZE.out]
        have z0 : wz.cell? ⟨rb, 0, none⟩ = some (.int .i64 0) := HZ.out.1.cell 0
        have z1 : wz.cell? ⟨rb, 1, none⟩ = some (.int .i64 0) := HZ.out.1.cell 1
        have z2 : wz.cell? ⟨rb, 2, none⟩ = some (.int .i64 0) := HZ.out.1.cell 2
        have z3 : wz.cell? ⟨rb, 3, none⟩ = some (.int .i64 0) := HZ.out.1.cell 3
        have z4 : wz.cell? ⟨rb, 4, none⟩ = some (.int .i64 0) := HZ.out.1.cell 4
        have z5 : wz.cell? ⟨rb, 5, none⟩ = some (.int .i64 0) := HZ.out.1.cell 5
        have z6 : wz.cell? ⟨rb, 6, none⟩ = some (.int .i64 0) := HZ.out.1.cell 6
        exact bodyPost_ret (v := .tuple #[.agg #[.int .i64 0, .int .i64 0, .int .i64 0, .int .i64 0, .int .i64 0, .int .i64 0, .int .i64 0], .int .i64 3]) (by simp [results, Tryz.results61, go_sem, z0, z1, z2, z3, z4, z5, z6]) rfl ⟨weekR_bad HF.out (by decide), HZ.out.2⟩
end Go.Proofs.YtlgoaohklggcdaaGreatDoor
