/- Merged from: Ui1 Ui2 Ui3 Ui4 Ui5 Ui6. -/
import Derived.Test.YtgheloooibafcaaGreatDoorBase
import Derived.Sort.WalkA
import Derived.BigRegion
import Derived.Test.YtgheloooibafcaaGreatDoorBk
import Derived.Sort.LotD4
import Derived.Sort.Grow
namespace Go.Proofs.YtgheloooibafcaaGreatDoor
open Go.RowKit Go.Sort

abbrev eU : Int → Value := Value.int .u32
theorem u_isNaN (x : Int) (w : World) : Calls Tryz.prog 171 #[.int .u32 x] w fun e w' => e = .returned (.bool false) ∧ w' = w := by
  have h : (x != x) = false := by simp
  go_enter Tryz.func171, Tryz.ntmps171
  go_wp2
  go_ret
  exact ⟨rfl, rfl⟩
theorem u_Less (x y : Int) (w : World) : Calls Tryz.prog 131 #[.int .u32 x, .int .u32 y] w fun e w' => e = .returned (.bool (ltInt x y)) ∧ w' = w := by
  go_enter Tryz.func131, Tryz.ntmps131
  by_cases h : x < y
  · have hl : Hid (ltInt x y = true) := Lib.hid (decide_eq_true h)
    go_wp2
    go_ret
    exact ⟨ret_b hl.out.symm, rfl⟩
  · have hl : Hid (ltInt x y = false) := Lib.hid (decide_eq_false h)
    go_wp2
    go_ret
    exact ⟨ret_b hl.out.symm, rfl⟩

/-- A row of numbers, changed in place, some draws on. -/
def URow (w : World) (g off : Nat) (d : Array Int) (W : World) : Prop := ∃ n, W = putRow eU (Sort.ahead w n) g off d
theorem URow.drewN {w W : World} {g off : Nat} {d : Array Int} (h : URow w g off d W) (q : Nat) : URow w g off d (W.drewN q) := by
  obtain ⟨n, rfl⟩ := h
  exact ⟨n + q, putRow_drewN _ _ _ _ _ _ _⟩
theorem URow.cell {w W : World} {g off : Nat} {d e : Array Int} (hH : Holds eU w g off d) (hs : e.size = d.size) (h : URow w g off e W) {t : Nat} (ht : t < d.size) : W.cell? ⟨g, off + t, none⟩ = some (.int .u32 e[t]!) := by
  obtain ⟨n, rfl⟩ := h
  exact cell?_putRow _ _ _ _ d e (holds_ahead _ _ _ _ _ _ hH) hs t (by omega)
theorem URow.frozen {w W : World} {g off : Nat} {d e : Array Int} (hH : Holds eU w g off d) (h : URow w g off e W) {t : Nat} (ht : t < d.size) : W.frozen? ⟨g, off + t, none⟩ = false := by
  obtain ⟨n, rfl⟩ := h
  rw [frozen?_putRow]
  exact ((holds_ahead _ _ n _ _ _ hH) t ht).2
theorem URow.swap {w W : World} {g off : Nat} {e : Array Int} (h : URow w g off e W) (q : Nat) {j k : Nat} (hj : j < e.size) (hk : k < e.size) : URow w g off (swp e j k) (((W.drewN q).setCell ⟨g, off + j, none⟩ (.int .u32 e[k]!)).setCell ⟨g, off + k, none⟩ (.int .u32 e[j]!)) := by
  obtain ⟨n, rfl⟩ := h
  exact ⟨n + q, swap_worldA eU w n q g off e j k hj hk⟩

set_option maxHeartbeats 2000000 in
theorem u_insertion (g off cap a b : Nat) (d : Array Int) (w : World) (hH : Holds eU w g off d) (hab : a ≤ b) (hb : b ≤ d.size) (hsz : d.size ≤ 1000000) :
    Calls Tryz.prog 125 #[.slice (some ⟨g, off, none⟩) d.size cap, .int .i64 a, .int .i64 b] w fun e w' => e = .returned (.tuple #[]) ∧ URow w g off (Sort.insertionSort ltInt d a b) w' := by
  have HH := Lib.hid hH
  clear hH
  go_enter Tryz.func125, Tryz.ntmps125
  go_wp2
  go_loopw [6] (fun iv wr => ∃ (i : Nat) (e : Array Int), iv = .int .i64 i ∧ a < i ∧ i ≤ b + 1 ∧ e.size = d.size ∧ Hid (URow w g off e wr) ∧ Hid (insOuter ltInt a b i e = insOuter ltInt a b (a + 1) d)) (fun iv _ => b + 1 - (intOf iv).toNat)
  case atStart => exact ⟨a + 1, d, by go_num, by omega, by omega, rfl, Lib.hid ⟨0, (putRow_self _ _ _ _ _ HH.out).symm⟩, Lib.hid rfl⟩
  case round =>
    obtain ⟨i, e, rfl, hai, hib, hse, HR, HO⟩ := hrel
    by_cases hlt : i < b
    · go_wp2
      go_loopw [7] (fun jv wr => ∃ (j : Nat) (f : Array Int), jv = .int .i64 j ∧ a ≤ j ∧ j ≤ i ∧ f.size = d.size ∧ Hid (URow w g off f wr) ∧ Hid (insInner ltInt a j f = insInner ltInt a i e)) (fun jv _ => (intOf jv).toNat)
      case atStart => exact ⟨i, e, rfl, by omega, Nat.le_refl _, hse, HR, Lib.hid rfl⟩
      case round =>
        obtain ⟨j, f, rfl, haj, hji, hsf, HF, HI⟩ := hrel
        have HEND : Hid ((j ≤ a ∨ ltInt f[j]! f[j - 1]! = false) → insOuter ltInt a b (i + 1) f = insOuter ltInt a b (a + 1) d) := Lib.hid fun h => by
          rw [← HO.out, insOuter_go _ _ _ _ _ hlt, ← HI.out, insInner_stop _ _ _ _ h]
        by_cases hja : a < j
        · have c1 := HF.out.cell HH.out hsf (t := j) (by omega)
          have c2 := HF.out.cell HH.out hsf (t := j - 1) (by omega)
          have g1 := HF.out.frozen HH.out (t := j) (by omega)
          have g2 := HF.out.frozen HH.out (t := j - 1) (by omega)
          have HSW := Lib.hid (fun q => HF.out.swap q (j := j) (k := j - 1) (by omega) (by omega))
          have HGO := Lib.hid (insInner_go ltInt a j f hja)
          obtain ⟨x, hx⟩ : ∃ x, f[j]! = x := ⟨_, rfl⟩
          obtain ⟨y, hy⟩ : ∃ y, f[j - 1]! = y := ⟨_, rfl⟩
          rw [hx] at c1 HSW HGO HEND
          rw [hy] at c2 HSW HGO HEND
          clear hx hy
          have hgt : decide ((j : Int) > (a : Int)) = true := by simp; omega
          have hgt2 : decide ((a : Int) < (j : Int)) = true := by simp; omega
          have v1 : IntKind.i64.wrap ((j : Int) - 1) = (j : Int) - 1 := IntWalk.i64_in _ (by omega)
          have v2 : ((j : Int) - 1).toNat = j - 1 := by omega
          have hw3 : (0 : Int) ≤ (j : Int) - 1 := by omega
          have hw4 : (j : Int) - 1 < (d.size : Int) := by omega
          have hw5 : (j : Int) < (d.size : Int) := by omega
          obtain ⟨lb, hlb⟩ : ∃ z, ltInt x y = z := ⟨_, rfl⟩
          have HLS := Lib.hid (u_Less x y)
          rw [hlb] at HLS HGO HEND
          have hne : ¬ off + j = off + (j - 1) := by omega
          clear hlb
          go_wp2_with fail
          go_quiet (first | (go_at_call 131; refine Calls.quiet_of_same (HLS.out _)))
          cases lb with
          | true =>
            have HI2 : Hid (insInner ltInt a (j - 1) (swp f j (j - 1)) = insInner ltInt a i e) := Lib.hid (by rw [← HI.out, HGO.out rfl])
            clear HGO HEND
            go_wp2_with fail
            go_region
            all_goals go_wp2
            all_goals exact ⟨⟨j - 1, swp f j (j - 1), by go_num, by omega, by omega, by rw [size_swp]; exact hsf, Lib.hid (HSW.out (nq + 1)), HI2⟩, by simp [intOf]; omega⟩
          | false =>
            have HE2 := Lib.hid (HEND.out (.inr rfl))
            clear HGO HEND
            go_wp2
            exact ⟨⟨i + 1, f, by go_num, by omega, by omega, hsf, Lib.hid (HF.out.drewN nq), HE2⟩, by simp [intOf]; omega⟩
        · have hgt : decide ((j : Int) > (a : Int)) = false := by simp; omega
          have hgt2 : decide ((a : Int) < (j : Int)) = false := by simp; omega
          go_wp2_with fail
          go_quiet (fail)
          go_wp2
          exact ⟨⟨i + 1, f, by go_num, by omega, by omega, hsf, Lib.hid (HF.out.drewN nq), Lib.hid (HEND.out (.inl (by omega)))⟩, by simp [intOf]; omega⟩
    · have HFIN : Hid (Sort.insertionSort ltInt d a b = e) := Lib.hid (by unfold Sort.insertionSort; rw [← HO.out, insOuter_stop _ _ _ _ _ hlt])
      go_wp2
      go_end0
      exact ⟨rfl, by rw [HFIN.out]; exact HR.out⟩
end Go.Proofs.YtgheloooibafcaaGreatDoor

namespace Go.Proofs.YtgheloooibafcaaGreatDoor
open Go.RowKit Go.Sort

theorem rev_go (i j : Nat) (d : Array Int) (h : i < j) : reverseLoop i j d = reverseLoop (i + 1) (j - 1) (swp d i j) := by rw [reverseLoop, if_pos h]
theorem rev_stop (i j : Nat) (d : Array Int) (h : ¬ i < j) : reverseLoop i j d = d := by rw [reverseLoop, if_neg h]

set_option maxHeartbeats 2000000 in
theorem u_reverse (g off cap a b : Nat) (d : Array Int) (w : World) (hH : Holds eU w g off d) (hab : a < b) (hb : b ≤ d.size) (hsz : d.size ≤ 1000000) :
    Calls Tryz.prog 129 #[.slice (some ⟨g, off, none⟩) d.size cap, .int .i64 a, .int .i64 b] w fun e w' => e = .returned (.tuple #[]) ∧ URow w g off (Sort.reverseRange d a b) w' := by
  have HH := Lib.hid hH
  clear hH
  go_enter Tryz.func129, Tryz.ntmps129
  go_wp2
  go_loopw [6, 7] (fun iv jv wr => ∃ (i j : Nat) (e : Array Int), iv = .int .i64 i ∧ jv = .int .i64 j ∧ i ≤ b ∧ j < b ∧ e.size = d.size ∧ Hid (URow w g off e wr) ∧ Hid (reverseLoop i j e = reverseLoop a (b - 1) d)) (fun iv jv _ => (intOf jv).toNat + 1 - (intOf iv).toNat)
  case atStart => exact ⟨a, b - 1, d, rfl, by congr 1; omega, by omega, by omega, rfl, Lib.hid ⟨0, (putRow_self _ _ _ _ _ HH.out).symm⟩, Lib.hid rfl⟩
  case round =>
    obtain ⟨i, j, e, rfl, rfl, hi, hj, hse, HR, HO⟩ := hrel
    by_cases hlt : i < j
    · have c1 := HR.out.cell HH.out hse (t := i) (by omega)
      have c2 := HR.out.cell HH.out hse (t := j) (by omega)
      have g1 := HR.out.frozen HH.out (t := i) (by omega)
      have g2 := HR.out.frozen HH.out (t := j) (by omega)
      have HSW := Lib.hid (fun q => HR.out.swap q (j := i) (k := j) (by omega) (by omega))
      have HGO : Hid (reverseLoop (i + 1) (j - 1) (swp e i j) = reverseLoop a (b - 1) d) := Lib.hid (by rw [← HO.out, rev_go _ _ _ hlt])
      obtain ⟨x, hx⟩ : ∃ x, e[i]! = x := ⟨_, rfl⟩
      obtain ⟨y, hy⟩ : ∃ y, e[j]! = y := ⟨_, rfl⟩
      rw [hx] at c1 HSW
      rw [hy] at c2 HSW
      clear hx hy
      have hw4 : (i : Int) < (d.size : Int) := by omega
      have hw5 : (j : Int) < (d.size : Int) := by omega
      have hne : ¬ off + i = off + j := by omega
      go_wp2_with fail
      go_region
      all_goals go_wp2
      all_goals exact ⟨⟨i + 1, j - 1, swp e i j, by go_num, by congr 1; omega, by omega, by omega, by rw [size_swp]; exact hse, Lib.hid (HSW.out 1), HGO⟩, by simp [intOf]; omega⟩
    · have HFIN : Hid (Sort.reverseRange d a b = e) := Lib.hid (by unfold Sort.reverseRange; rw [← HO.out, rev_stop _ _ _ hlt])
      go_wp2
      go_end0
      exact ⟨rfl, by rw [HFIN.out]; exact HR.out⟩
end Go.Proofs.YtgheloooibafcaaGreatDoor

namespace Go.Proofs.YtgheloooibafcaaGreatDoor
open Go.RowKit Go.Sort

theorem holds_grown {w w' : World} {g off pb : Nat} {d : Array Int} (h : Holds eU w g off d) (hg : w.grownBy w' (some pb)) (hne : g ≠ pb) : Holds eU w' g off d := fun j hj => by
  obtain ⟨h1, h2⟩ := h j hj
  have hlt : g < w.heap.size := cell_lt h1
  have hb := hg.block g hlt (by simpa using hne)
  exact ⟨(World.cell?_of_block (a := ⟨g, off + j, none⟩) hb).trans h1, (World.frozen?_of_block (a := ⟨g, off + j, none⟩) hb).trans h2⟩
/-- What order2 and median leave: the count of swaps, somewhere. -/
def Cnt (pb : Nat) (w : World) (s : Nat) (w' : World) : Prop := w.grownBy w' (some pb) ∧ Bk pb 3 #[.int .i64 s] w'

set_option maxHeartbeats 2000000 in
theorem u_order2 (g off cap a b s pb : Nat) (d : Array Int) (w : World) (hH : Holds eU w g off d) (ha : a < d.size) (hb : b < d.size) (hs : s ≤ 1000) (hp : Bk pb 3 #[.int .i64 s] w) :
    Calls Tryz.prog 199 #[.slice (some ⟨g, off, none⟩) d.size cap, .int .i64 a, .int .i64 b, .pointer (some ⟨pb, 0, none⟩)] w fun e w' => e = .returned (.tuple #[.int .i64 (order2 ltInt d a b s).1, .int .i64 (order2 ltInt d a b s).2.1]) ∧ Cnt pb w (order2 ltInt d a b s).2.2 w' := by
  have c1 : w.cell? ⟨g, off + a, none⟩ = some (.int .u32 d[a]!) := (hH a ha).1
  have c2 : w.cell? ⟨g, off + b, none⟩ = some (.int .u32 d[b]!) := (hH b hb).1
  have HOR : Hid (order2 ltInt d a b s = if ltInt d[b]! d[a]! = true then (b, a, s + 1) else (a, b, s)) := Lib.hid rfl
  obtain ⟨x, hx⟩ : ∃ x, d[a]! = x := ⟨_, rfl⟩
  obtain ⟨y, hy⟩ : ∃ y, d[b]! = y := ⟨_, rfl⟩
  rw [hx, hy] at HOR
  rw [hx] at c1
  rw [hy] at c2
  obtain ⟨lb, hlb⟩ : ∃ z, ltInt y x = z := ⟨_, rfl⟩
  have HLS := Lib.hid (u_Less y x)
  rw [hlb] at HLS HOR
  obtain ⟨r, hr⟩ : ∃ r, order2 ltInt d a b s = r := ⟨_, rfl⟩
  rw [hr] at HOR ⊢
  have HP := Lib.hid hp
  have hw4 : (a : Int) < (d.size : Int) := by omega
  have hw5 : (b : Int) < (d.size : Int) := by omega
  clear hx hy hlb hr hp hH
  go_enter Tryz.func199, Tryz.ntmps199
  go_wp2_with fail
  go_quiet (first | (go_at_call 131; refine Calls.quiet_of_same (HLS.out _)))
  cases lb with
  | true =>
    have HR : Hid (r = (b, a, s + 1)) := Lib.hid HOR.out
    clear HOR c1 c2
    have P1 : w.cell? ⟨pb, 0, none⟩ = some (.int .i64 s) := HP.out.cell 0
    have P2 : w.frozen? ⟨pb, 0, none⟩ = false := HP.out.frozen 0
    go_wp2
    go_ret2
    rw [HR.out]
    refine ⟨rfl, ⟨rfl, rfl, rfl, by simp [World.setCell], fun k hk hn => ?_⟩, ?_⟩
    · exact Below.heap_setCell _ _ _ _ (by simpa using hn)
    · have h := (HP.out.drewN nq).set_ 0 (.int .i64 ((s : Int) + 1))
      exact h
  | false =>
    have HR : Hid (r = (a, b, s)) := Lib.hid HOR.out
    clear HOR c1 c2
    go_wp2
    go_ret2
    rw [HR.out]
    exact ⟨rfl, ⟨rfl, rfl, rfl, Nat.le_refl _, fun k hk hn => rfl⟩, HP.out.drewN nq⟩
theorem order2_or (d : Array Int) (a b s : Nat) : order2 ltInt d a b s = (b, a, s + 1) ∨ order2 ltInt d a b s = (a, b, s) := by
  unfold order2
  split
  · exact .inl rfl
  · exact .inr rfl
theorem cnt_trans {pb s t : Nat} {a b c : World} (h : Cnt pb a s b) (k : Cnt pb b t c) : Cnt pb a t c :=
  ⟨⟨k.1.os.trans h.1.os, k.1.tape.trans h.1.tape, k.1.output.trans h.1.output, Nat.le_trans h.1.size k.1.size, fun i hi hn => (k.1.block i (Nat.lt_of_lt_of_le hi h.1.size) hn).trans (h.1.block i hi hn)⟩, k.2⟩

set_option maxHeartbeats 2000000 in
theorem u_median (g off cap a b c s pb : Nat) (d : Array Int) (w : World) (hH : Holds eU w g off d) (ha : a < d.size) (hb : b < d.size) (hc : c < d.size) (hs : s ≤ 900) (hp : Bk pb 3 #[.int .i64 s] w) (hne : g ≠ pb) :
    Calls Tryz.prog 170 #[.slice (some ⟨g, off, none⟩) d.size cap, .int .i64 a, .int .i64 b, .int .i64 c, .pointer (some ⟨pb, 0, none⟩)] w fun e w' => e = .returned (.int .i64 (median ltInt d a b c s).1) ∧ Cnt pb w (median ltInt d a b c s).2 w' := by
  obtain ⟨⟨a1, b1, s1⟩, h1⟩ : ∃ r, order2 ltInt d a b s = r := ⟨_, rfl⟩
  obtain ⟨⟨b2, c2, s2⟩, h2⟩ : ∃ r, order2 ltInt d b1 c s1 = r := ⟨_, rfl⟩
  obtain ⟨⟨a3, b3, s3⟩, h3⟩ : ∃ r, order2 ltInt d a1 b2 s2 = r := ⟨_, rfl⟩
  have hm : median ltInt d a b c s = (b3, s3) := by
    unfold median
    simp only [h1, h2, h3]
  have q1 : a1 < d.size ∧ b1 < d.size ∧ s1 ≤ s + 1 := by
    rcases order2_or d a b s with h | h <;> (rw [h] at h1; injection h1 with e1 e2; injection e2 with e2 e3; subst e1; subst e2; subst e3; exact ⟨by omega, by omega, by omega⟩)
  have q2 : b2 < d.size ∧ s2 ≤ s + 2 := by
    rcases order2_or d b1 c s1 with h | h <;> (rw [h] at h2; injection h2 with e1 e2; injection e2 with e2 e3; subst e1; subst e3; exact ⟨by omega, by omega⟩)
  have k1 := u_order2 g off cap a b s pb d w hH ha hb (by omega) hp
  rw [h1] at k1
  have K1 := Lib.hid k1
  have K2 : Hid (∀ W, Cnt pb w s1 W → Calls Tryz.prog 199 #[.slice (some ⟨g, off, none⟩) d.size cap, .int .i64 b1, .int .i64 c, .pointer (some ⟨pb, 0, none⟩)] W fun e w' => e = .returned (.tuple #[.int .i64 b2, .int .i64 c2]) ∧ Cnt pb W s2 w') := Lib.hid fun W hW => by
    have k := u_order2 g off cap b1 c s1 pb d W (holds_grown hH hW.1 hne) q1.2.1 hc (by omega) hW.2
    rw [h2] at k
    exact k
  have K3 : Hid (∀ W, Cnt pb w s2 W → Calls Tryz.prog 199 #[.slice (some ⟨g, off, none⟩) d.size cap, .int .i64 a1, .int .i64 b2, .pointer (some ⟨pb, 0, none⟩)] W fun e w' => e = .returned (.tuple #[.int .i64 a3, .int .i64 b3]) ∧ Cnt pb W s3 w') := Lib.hid fun W hW => by
    have k := u_order2 g off cap a1 b2 s2 pb d W (holds_grown hH hW.1 hne) q1.1 q2.1 (by omega) hW.2
    rw [h3] at k
    exact k
  rw [hm]
  clear hm h1 h2 h3 q1 q2 k1 hH hp
  go_enter Tryz.func170, Tryz.ntmps170
  go_wp2_with fail
  refine K1.out.mono ?_
  rintro e w1 ⟨rfl, hc1⟩
  have C1 := Lib.hid hc1
  clear hc1
  go_wp2_with fail
  refine (K2.out _ C1.out).mono ?_
  rintro e w2 ⟨rfl, hc2⟩
  have C2 := Lib.hid (cnt_trans C1.out hc2)
  clear hc2
  go_wp2_with fail
  refine (K3.out _ C2.out).mono ?_
  rintro e w3 ⟨rfl, hc3⟩
  have C3 := Lib.hid (cnt_trans C2.out hc3)
  clear hc3
  go_wp2
  go_ret
  exact ⟨rfl, C3.out⟩

set_option maxHeartbeats 2000000 in
theorem u_medianAdj (g off cap a s pb : Nat) (d : Array Int) (w : World) (hH : Holds eU w g off d) (h1 : 1 ≤ a) (ha : a + 1 < d.size) (hd : d.size ≤ 1000000) (hs : s ≤ 900) (hp : Bk pb 3 #[.int .i64 s] w) (hne : g ≠ pb) :
    Calls Tryz.prog 169 #[.slice (some ⟨g, off, none⟩) d.size cap, .int .i64 a, .pointer (some ⟨pb, 0, none⟩)] w fun e w' => e = .returned (.int .i64 (medianAdjacent ltInt d a s).1) ∧ Cnt pb w (medianAdjacent ltInt d a s).2 w' := by
  unfold medianAdjacent
  have k := u_median g off cap (a - 1) a (a + 1) s pb d w hH (by omega) (by omega) ha hs hp hne
  generalize median ltInt d (a - 1) a (a + 1) s = r at *
  rw [show (((a - 1 : Nat)) : Int) = (a : Int) - 1 by omega, show ((a + 1 : Nat) : Int) = (a : Int) + 1 by omega] at k
  have K := Lib.hid k
  have hw3 : (0 : Int) ≤ (a : Int) - 1 := by omega
  clear k hH hp
  go_enter Tryz.func169, Tryz.ntmps169
  go_wp2_with fail
  refine K.out.mono ?_
  rintro e w1 ⟨rfl, hc1⟩
  have C1 := Lib.hid hc1
  clear hc1
  go_wp2
  go_ret
  exact ⟨rfl, C1.out⟩
end Go.Proofs.YtgheloooibafcaaGreatDoor

namespace Go.Proofs.YtgheloooibafcaaGreatDoor
open Go.RowKit Go.Sort

theorem sift_end (hi first r : Nat) (d : Array Int) (h : 2 * r + 1 ≥ hi) : siftDown ltInt hi first r d = d := by rw [siftDown, dif_pos h]
theorem sift_up (hi first r : Nat) (d : Array Int) (h : 2 * r + 2 < hi) (hl : ltInt d[first + (2 * r + 1)]! d[first + (2 * r + 2)]! = true) : siftDown ltInt hi first r d = if ltInt d[first + r]! d[first + (2 * r + 2)]! = true then siftDown ltInt hi first (2 * r + 2) (swp d (first + r) (first + (2 * r + 2))) else d := by
  rw [siftDown, dif_neg (by omega)]
  rw [if_pos (by rw [Bool.and_eq_true]; exact ⟨decide_eq_true (by omega), hl⟩)]
  cases ltInt d[first + r]! d[first + (2 * r + 2)]! <;> simp [h]
theorem sift_stay (hi first r : Nat) (d : Array Int) (h0 : ¬ 2 * r + 1 ≥ hi) (h : ¬ 2 * r + 2 < hi ∨ ltInt d[first + (2 * r + 1)]! d[first + (2 * r + 2)]! = false) : siftDown ltInt hi first r d = if ltInt d[first + r]! d[first + (2 * r + 1)]! = true then siftDown ltInt hi first (2 * r + 1) (swp d (first + r) (first + (2 * r + 1))) else d := by
  rw [siftDown, dif_neg h0]
  rw [if_neg (by
    rw [Bool.and_eq_true]
    rintro ⟨h1, h2⟩
    have h3 := of_decide_eq_true h1
    rcases h with h | h
    · omega
    · have h4 : ltInt d[first + (2 * r + 1)]! d[first + (2 * r + 2)]! = true := h2
      rw [h] at h4
      cases h4)]
  cases ltInt d[first + r]! d[first + (2 * r + 1)]! <;> simp

set_option maxHeartbeats 4000000 in
theorem u_sift (g off cap lo hi first : Nat) (d : Array Int) (w w0 : World) (hH : Holds eU w g off d) (d0 : Array Int) (hd0 : d0.size = d.size) (hW : URow w g off d0 w0) (hlo : lo ≤ 1000000) (hhi : first + hi ≤ d.size) (hsz : d.size ≤ 1000000) :
    Calls Tryz.prog 166 #[.slice (some ⟨g, off, none⟩) d.size cap, .int .i64 lo, .int .i64 hi, .int .i64 first] w0 fun e w' => e = .returned (.tuple #[]) ∧ URow w g off (siftDown ltInt hi first lo d0) w' := by
  have HH := Lib.hid hH
  have HW0 := Lib.hid hW
  have HD0 := Lib.hid hd0
  clear hH hW
  go_enter Tryz.func166, Tryz.ntmps166
  go_wp2
  go_loopw [8] (fun rv wr => ∃ (r : Nat) (e : Array Int), rv = .int .i64 r ∧ r ≤ 1000000 ∧ e.size = d.size ∧ Hid (URow w g off e wr) ∧ Hid (siftDown ltInt hi first r e = siftDown ltInt hi first lo d0)) (fun rv _ => 1000000 - (intOf rv).toNat)
  case atStart => exact ⟨lo, d0, rfl, hlo, HD0.out, HW0, Lib.hid rfl⟩
  case round =>
    obtain ⟨r, e, rfl, hr, hse, HR, HO⟩ := hrel
    have v1 : IntKind.i64.wrap (2 * (r : Int)) = 2 * (r : Int) := IntWalk.i64_in _ (by omega)
    have v2 : IntKind.i64.wrap (2 * (r : Int) + 1) = 2 * (r : Int) + 1 := IntWalk.i64_in _ (by omega)
    by_cases h0 : 2 * r + 1 ≥ hi
    · have HF : Hid (siftDown ltInt hi first lo d0 = e) := Lib.hid (by rw [← HO.out, sift_end _ _ _ _ h0])
      have hb0 : decide ((2 * (r : Int) + 1) ≥ (hi : Int)) = true := by simp; omega
      have hb1 : (hi : Int) ≤ 2 * (r : Int) + 1 := by omega
      go_wp2
      go_end0
      exact ⟨rfl, by rw [HF.out]; exact HR.out⟩
    · have hb1 : ¬ (hi : Int) ≤ 2 * (r : Int) + 1 := by omega
      obtain ⟨x, hx⟩ : ∃ x, e[first + r]! = x := ⟨_, rfl⟩
      obtain ⟨y, hy⟩ : ∃ y, e[first + (2 * r + 1)]! = y := ⟨_, rfl⟩
      have c1 := HR.out.cell HH.out hse (t := first + r) (by omega)
      have c2 := HR.out.cell HH.out hse (t := first + (2 * r + 1)) (by omega)
      have e1 : ((first : Int) + (2 * (r : Int) + 1)).toNat = first + (2 * r + 1) := by omega
      have e2 : ((first : Int) + (r : Int)).toNat = first + r := by omega
      have e3 : ((first : Int) + (2 * (r : Int) + 1) + 1).toNat = first + (2 * r + 2) := by omega
      have e4 : ((first : Int) + (2 * (r : Int) + 1 + 1)).toNat = first + (2 * r + 2) := by omega
      rw [hx] at c1
      rw [hy] at c2
      have HX := Lib.hid hx
      have HY := Lib.hid hy
      have q1 : (first : Int) + (2 * (r : Int) + 1) < (d.size : Int) := by omega
      have q2 : (0 : Int) ≤ (first : Int) + (2 * (r : Int) + 1) := by omega
      have q3 : (first : Int) + (r : Int) < (d.size : Int) := by omega
      have q4 : (0 : Int) ≤ (first : Int) + (r : Int) := by omega
      clear hx hy
      by_cases h2 : 2 * r + 2 < hi
      · obtain ⟨z, hz⟩ : ∃ z, e[first + (2 * r + 2)]! = z := ⟨_, rfl⟩
        have c3 := HR.out.cell HH.out hse (t := first + (2 * r + 2)) (by omega)
        rw [hz] at c3
        have HZ := Lib.hid hz
        clear hz
        have q5 : (first : Int) + (2 * (r : Int) + 1) + 1 < (d.size : Int) := by omega
        have q6 : (first : Int) + (2 * (r : Int) + 1 + 1) < (d.size : Int) := by omega
        have hb3 : (2 * (r : Int) + 1 + 1) < (hi : Int) := by omega
        obtain ⟨lb, hlb⟩ : ∃ z2, ltInt y z = z2 := ⟨_, rfl⟩
        have HLS := Lib.hid (u_Less y z)
        rw [hlb] at HLS
        have HLB := Lib.hid hlb
        clear hlb
        go_wp2_with fail
        go_quiet (first | (go_at_call 131; refine Calls.quiet_of_same (HLS.out _)))
        cases lb with
        | true =>
          have HUP := Lib.hid (sift_up hi first r e h2 (by rw [HY.out, HZ.out]; exact HLB.out))
          clear c1 c2 c3
          have HRm : Hid (URow w g off e (wr.drewN nq)) := Lib.hid (HR.out.drewN nq)
          generalize wr.drewN nq = wm at *
          have k1 := HRm.out.cell HH.out hse (t := first + r) (by omega)
          have k2 := HRm.out.cell HH.out hse (t := first + (2 * r + 2)) (by omega)
          have g1 := HRm.out.frozen HH.out (t := first + r) (by omega)
          have g2 := HRm.out.frozen HH.out (t := first + (2 * r + 2)) (by omega)
          have HSW := Lib.hid (fun q => HRm.out.swap q (j := first + r) (k := first + (2 * r + 2)) (by omega) (by omega))
          obtain ⟨lb2, hlb2⟩ : ∃ zz, ltInt x z = zz := ⟨_, rfl⟩
          have HLS2 := Lib.hid (u_Less x z)
          rw [hlb2] at HLS2
          have HST : Hid (siftDown ltInt hi first lo d0 = if lb2 = true then siftDown ltInt hi first (2 * r + 2) (swp e (first + r) (first + (2 * r + 2))) else e) := Lib.hid (by rw [← HO.out, HUP.out, HX.out, HZ.out, hlb2])
          rw [HX.out] at k1 HSW
          rw [HZ.out] at k2 HSW
          have hne : ¬ off + (first + r) = off + (first + (2 * r + 2)) := by omega
          clear hlb2
          go_wp2_with fail
          go_quiet (first | (go_at_call 131; refine Calls.quiet_of_same (HLS2.out _)))
          cases lb2 with
          | false =>
            have HF : Hid (siftDown ltInt hi first lo d0 = e) := Lib.hid HST.out
            have HRn := Lib.hid (HRm.out.drewN nq)
            clear HST HSW
            go_wp2
            refine bodyPost_ret (results_none rfl _ _ _) rfl ?_
            exact ⟨rfl, by rw [HF.out]; exact HRn.out⟩
          | true =>
            have HF : Hid (siftDown ltInt hi first (2 * r + 2) (swp e (first + r) (first + (2 * r + 2))) = siftDown ltInt hi first lo d0) := Lib.hid HST.out.symm
            clear HST
            go_wp2_with fail
            go_region
            all_goals go_wp2
            all_goals exact ⟨⟨2 * r + 2, swp e (first + r) (first + (2 * r + 2)), by go_num, by omega, by rw [size_swp]; exact hse, Lib.hid (HSW.out (nq + 1)), HF⟩, by simp [intOf]; omega⟩
        | false =>
          have HUP := Lib.hid (sift_stay hi first r e h0 (.inr (by rw [HY.out, HZ.out]; exact HLB.out)))
          clear c1 c2 c3
          have HRm : Hid (URow w g off e (wr.drewN nq)) := Lib.hid (HR.out.drewN nq)
          generalize wr.drewN nq = wm at *
          have k1 := HRm.out.cell HH.out hse (t := first + r) (by omega)
          have k2 := HRm.out.cell HH.out hse (t := first + (2 * r + 1)) (by omega)
          have g1 := HRm.out.frozen HH.out (t := first + r) (by omega)
          have g2 := HRm.out.frozen HH.out (t := first + (2 * r + 1)) (by omega)
          have HSW := Lib.hid (fun q => HRm.out.swap q (j := first + r) (k := first + (2 * r + 1)) (by omega) (by omega))
          obtain ⟨lb2, hlb2⟩ : ∃ zz, ltInt x y = zz := ⟨_, rfl⟩
          have HLS2 := Lib.hid (u_Less x y)
          rw [hlb2] at HLS2
          have HST : Hid (siftDown ltInt hi first lo d0 = if lb2 = true then siftDown ltInt hi first (2 * r + 1) (swp e (first + r) (first + (2 * r + 1))) else e) := Lib.hid (by rw [← HO.out, HUP.out, HX.out, HY.out, hlb2])
          rw [HX.out] at k1 HSW
          rw [HY.out] at k2 HSW
          have hne : ¬ off + (first + r) = off + (first + (2 * r + 1)) := by omega
          clear hlb2
          go_wp2_with fail
          go_quiet (first | (go_at_call 131; refine Calls.quiet_of_same (HLS2.out _)))
          cases lb2 with
          | false =>
            have HF : Hid (siftDown ltInt hi first lo d0 = e) := Lib.hid HST.out
            have HRn := Lib.hid (HRm.out.drewN nq)
            clear HST HSW
            go_wp2
            refine bodyPost_ret (results_none rfl _ _ _) rfl ?_
            exact ⟨rfl, by rw [HF.out]; exact HRn.out⟩
          | true =>
            have HF : Hid (siftDown ltInt hi first (2 * r + 1) (swp e (first + r) (first + (2 * r + 1))) = siftDown ltInt hi first lo d0) := Lib.hid HST.out.symm
            clear HST
            go_wp2_with fail
            go_region
            all_goals go_wp2
            all_goals exact ⟨⟨2 * r + 1, swp e (first + r) (first + (2 * r + 1)), by go_num, by omega, by rw [size_swp]; exact hse, Lib.hid (HSW.out (nq + 1)), HF⟩, by simp [intOf]; omega⟩
      · have hb3 : ¬ (2 * (r : Int) + 1 + 1) < (hi : Int) := by omega
        have hb4 : decide ((2 * (r : Int) + 1 + 1) < (hi : Int)) = false := decide_eq_false hb3
        have HUP := Lib.hid (sift_stay hi first r e h0 (.inl h2))
        go_wp2_with fail
        go_quiet (fail)
        clear c1 c2
        have HRm : Hid (URow w g off e (wr.drewN nq)) := Lib.hid (HR.out.drewN nq)
        generalize wr.drewN nq = wm at *
        have k1 := HRm.out.cell HH.out hse (t := first + r) (by omega)
        have k2 := HRm.out.cell HH.out hse (t := first + (2 * r + 1)) (by omega)
        have g1 := HRm.out.frozen HH.out (t := first + r) (by omega)
        have g2 := HRm.out.frozen HH.out (t := first + (2 * r + 1)) (by omega)
        have HSW := Lib.hid (fun q => HRm.out.swap q (j := first + r) (k := first + (2 * r + 1)) (by omega) (by omega))
        obtain ⟨lb2, hlb2⟩ : ∃ zz, ltInt x y = zz := ⟨_, rfl⟩
        have HLS2 := Lib.hid (u_Less x y)
        rw [hlb2] at HLS2
        have HST : Hid (siftDown ltInt hi first lo d0 = if lb2 = true then siftDown ltInt hi first (2 * r + 1) (swp e (first + r) (first + (2 * r + 1))) else e) := Lib.hid (by rw [← HO.out, HUP.out, HX.out, HY.out, hlb2])
        rw [HX.out] at k1 HSW
        rw [HY.out] at k2 HSW
        have hne : ¬ off + (first + r) = off + (first + (2 * r + 1)) := by omega
        clear hlb2
        go_wp2_with fail
        go_quiet (first | (go_at_call 131; refine Calls.quiet_of_same (HLS2.out _)))
        cases lb2 with
        | false =>
          have HF : Hid (siftDown ltInt hi first lo d0 = e) := Lib.hid HST.out
          have HRn := Lib.hid (HRm.out.drewN nq)
          clear HST HSW
          go_wp2
          refine bodyPost_ret (results_none rfl _ _ _) rfl ?_
          exact ⟨rfl, by rw [HF.out]; exact HRn.out⟩
        | true =>
          have HF : Hid (siftDown ltInt hi first (2 * r + 1) (swp e (first + r) (first + (2 * r + 1))) = siftDown ltInt hi first lo d0) := Lib.hid HST.out.symm
          clear HST
          go_wp2_with fail
          go_region
          all_goals go_wp2
          all_goals exact ⟨⟨2 * r + 1, swp e (first + r) (first + (2 * r + 1)), by go_num, by omega, by rw [size_swp]; exact hse, Lib.hid (HSW.out (nq + 1)), HF⟩, by simp [intOf]; omega⟩
end Go.Proofs.YtgheloooibafcaaGreatDoor

namespace Go.Proofs.YtgheloooibafcaaGreatDoor
open Go.RowKit Go.Sort

theorem sift_size (hi first : Nat) : ∀ (n r : Nat) (d : Array Int), hi - r ≤ n → (siftDown ltInt hi first r d).size = d.size := by
  intro n
  induction n with
  | zero => intro r d h; rw [sift_end _ _ _ _ (by omega)]
  | succ n ih =>
    intro r d h
    by_cases h0 : 2 * r + 1 ≥ hi
    · rw [sift_end _ _ _ _ h0]
    · by_cases hu : 2 * r + 2 < hi ∧ ltInt d[first + (2 * r + 1)]! d[first + (2 * r + 2)]! = true
      · rw [sift_up _ _ _ _ hu.1 hu.2]
        split
        · rw [ih _ _ (by omega), size_swp]
        · rfl
      · rw [sift_stay _ _ _ _ h0 (by
          by_cases h1 : 2 * r + 2 < hi
          · exact .inr (by rw [← Bool.not_eq_true]; exact fun h2 => hu ⟨h1, h2⟩)
          · exact .inl h1)]
        split
        · rw [ih _ _ (by omega), size_swp]
        · rfl

set_option maxHeartbeats 4000000 in
theorem u_heap (g off cap a b : Nat) (d : Array Int) (w w0 : World) (hH : Holds eU w g off d) (d0 : Array Int) (hd0 : d0.size = d.size) (hW : URow w g off d0 w0) (hab : a < b) (hb : b ≤ d.size) (hsz : d.size ≤ 1000000) :
    Calls Tryz.prog 126 #[.slice (some ⟨g, off, none⟩) d.size cap, .int .i64 a, .int .i64 b] w0 fun e w' => e = .returned (.tuple #[]) ∧ URow w g off (Sort.heapSort ltInt d0 a b) w' := by
  have HH := Lib.hid hH
  have HW0 := Lib.hid hW
  have HD0 := Lib.hid hd0
  obtain ⟨m, hm⟩ : ∃ m, b - a = m := ⟨_, rfl⟩
  have hmi : (b : Int) - (a : Int) = (m : Int) := by omega
  have v0 : IntKind.i64.wrap ((b : Int) - (a : Int)) = (m : Int) := by rw [IntWalk.i64_in _ (by omega)]; omega
  have HHS : Hid (Sort.heapSort ltInt d0 a b = heapPop ltInt a m (heapBuild ltInt m a ((m - 1) / 2 + 1) d0)) := Lib.hid (by unfold Sort.heapSort; rw [hm])
  have HSI := Lib.hid (fun (lo hi : Nat) (e : Array Int) (W : World) (he : e.size = d.size) (hU : URow w g off e W) (h1 : lo ≤ 1000000) (h2 : a + hi ≤ d.size) => u_sift g off cap lo hi a d w W hH e he hU h1 h2 hsz)
  have v3 : IntKind.i64.wrap ((m : Int) - 1) = (m : Int) - 1 := IntWalk.i64_in _ (by omega)
  have hq : ((m : Int) - 1).tdiv 2 = (((m - 1) / 2 : Nat) : Int) := by
    rw [Int.tdiv_eq_ediv_of_nonneg (by omega)]; omega
  have hq2 : ((m : Int) - 1) / 2 = (((m - 1) / 2 : Nat) : Int) := by omega
  clear hH hW
  go_enter Tryz.func126, Tryz.ntmps126
  go_wp2
  go_loopw [9] (fun iv wr => ∃ (k : Nat) (e : Array Int), iv = .int .i64 ((k : Int) - 1) ∧ k ≤ 1000000 ∧ e.size = d.size ∧ Hid (URow w g off e wr) ∧ Hid (heapBuild ltInt m a k e = heapBuild ltInt m a ((m - 1) / 2 + 1) d0)) (fun iv _ => (intOf iv + 1).toNat)
  case atStart => exact ⟨(m - 1) / 2 + 1, d0, by congr 1; omega, by omega, HD0.out, HW0, Lib.hid rfl⟩
  case round =>
    obtain ⟨k, e, rfl, hk, hse, HR, HO⟩ := hrel
    cases k with
    | succ k =>
      have h1 : (0 : Int) ≤ ((k + 1 : Nat) : Int) - 1 := by omega
      have HC := Lib.hid (HSI.out k m e wr hse HR.out (by omega) (by omega))
      have HO2 : Hid (heapBuild ltInt m a k (siftDown ltInt m a k e) = heapBuild ltInt m a ((m - 1) / 2 + 1) d0) := Lib.hid (by rw [← HO.out]; rfl)
      rw [show ((k + 1 : Nat) : Int) - 1 = (k : Int) by omega] at *
      clear HO
      go_wp2_with fail
      refine HC.out.mono ?_
      rintro e1 w1 ⟨rfl, hu⟩
      have HU := Lib.hid hu
      clear hu
      go_wp2
      exact ⟨⟨k, siftDown ltInt m a k e, rfl, by omega, by rw [sift_size _ _ _ _ _ (Nat.le_refl _)]; exact hse, HU, HO2⟩, by simp [intOf]⟩
    | zero =>
      have HE : Hid (e = heapBuild ltInt m a ((m - 1) / 2 + 1) d0) := Lib.hid HO.out
      have h1 : ¬ (0 : Int) ≤ ((0 : Nat) : Int) - 1 := by omega
      clear HO
      go_wp2
      obtain ⟨HB, hHB⟩ : ∃ x, heapBuild ltInt m a ((m - 1) / 2 + 1) d0 = x := ⟨_, rfl⟩
      have HEB : Hid (e = HB) := Lib.hid (HE.out.trans hHB)
      rw [hHB] at HHS
      have HRE := Lib.hid HR.out
      clear hHB HE HR
      go_loopw [10] (fun iv wr => ∃ (k : Nat) (f : Array Int), iv = .int .i64 ((k : Int) - 1) ∧ k ≤ m ∧ f.size = d.size ∧ Hid (URow w g off f wr) ∧ Hid (heapPop ltInt a k f = heapPop ltInt a m HB)) (fun iv _ => (intOf iv + 1).toNat)
      case atStart => exact ⟨m, e, rfl, Nat.le_refl _, hse, HRE, Lib.hid (by rw [HEB.out])⟩
      case round =>
        obtain ⟨k, f, rfl, hkm, hsf, HF, HP⟩ := hrel
        cases k with
        | zero =>
          have HZ : Hid (f = heapPop ltInt a m HB) := Lib.hid HP.out
          have h1 : ¬ (0 : Int) ≤ ((0 : Nat) : Int) - 1 := by omega
          clear HP
          go_wp2
          go_end0
          exact ⟨rfl, by rw [HHS.out, ← HZ.out]; exact HF.out⟩
        | succ k =>
          have h1 : (0 : Int) ≤ ((k + 1 : Nat) : Int) - 1 := by omega
          have HP2 : Hid (heapPop ltInt a k (siftDown ltInt k a 0 (swp f a (a + k))) = heapPop ltInt a m HB) := Lib.hid (by rw [← HP.out]; rfl)
          rw [show ((k + 1 : Nat) : Int) - 1 = (k : Int) by omega] at *
          have HS2 : Hid (∀ W, URow w g off (swp f a (a + k)) W → Calls Tryz.prog 166 #[.slice (some ⟨g, off, none⟩) d.size cap, .int .i64 (0 : Nat), .int .i64 k, .int .i64 a] W fun e w' => e = .returned (.tuple #[]) ∧ URow w g off (siftDown ltInt k a 0 (swp f a (a + k))) w') := Lib.hid fun W hU => HSI.out 0 k _ W (by rw [size_swp]; exact hsf) hU (by omega) (by omega)
          have c1 := HF.out.cell HH.out hsf (t := a) (by omega)
          have c2 := HF.out.cell HH.out hsf (t := a + k) (by omega)
          have g1 := HF.out.frozen HH.out (t := a) (by omega)
          have g2 := HF.out.frozen HH.out (t := a + k) (by omega)
          have HSW := Lib.hid (fun q => HF.out.swap q (j := a) (k := a + k) (by omega) (by omega))
          have q1 : (a : Int) < (d.size : Int) := by omega
          have q2 : (a : Int) + (k : Int) < (d.size : Int) := by omega
          have q3 : ((a : Int) + (k : Int)).toNat = a + k := by omega
          clear HP
          by_cases hk0 : k = 0
          · subst hk0
            simp only [Nat.add_zero] at c1 c2 g1 g2 HSW HS2 HP2 q3
            obtain ⟨x, hx⟩ : ∃ x, f[a]! = x := ⟨_, rfl⟩
            rw [hx] at c1 HSW
            clear hx c2 g2
            go_wp2_with fail
            go_region
            all_goals
              go_wp2_with fail
              refine (HS2.out _ (HSW.out 1)).mono ?_
              rintro e1 w1 ⟨rfl, hu⟩
              have HU := Lib.hid hu
              clear hu
              go_wp2
              exact ⟨⟨0, _, rfl, by omega, by rw [sift_size _ _ _ _ _ (Nat.le_refl _), size_swp]; exact hsf, HU, HP2⟩, by simp [intOf]⟩
          · have hne : ¬ off + a = off + (a + k) := by omega
            obtain ⟨x, hx⟩ : ∃ x, f[a]! = x := ⟨_, rfl⟩
            obtain ⟨y, hy⟩ : ∃ y, f[a + k]! = y := ⟨_, rfl⟩
            rw [hx] at c1 HSW
            rw [hy] at c2 HSW
            clear hx hy
            go_wp2_with fail
            go_region
            all_goals
              go_wp2_with fail
              refine (HS2.out _ (HSW.out 1)).mono ?_
              rintro e1 w1 ⟨rfl, hu⟩
              have HU := Lib.hid hu
              clear hu
              go_wp2
              exact ⟨⟨k, _, rfl, by omega, by rw [sift_size _ _ _ _ _ (Nat.le_refl _), size_swp]; exact hsf, HU, HP2⟩, by simp [intOf]⟩
end Go.Proofs.YtgheloooibafcaaGreatDoor

namespace Go.Proofs.YtgheloooibafcaaGreatDoor
open Go.RowKit Go.Sort

/-- The row reads d; all else that was there is as it was. -/
def UG (w : World) (g off : Nat) (d : Array Int) (W : World) : Prop := w.grownBy W (some g) ∧ W.heap[g]? = (putRow eU w g off d).heap[g]?
theorem row_block (w : World) (g off : Nat) (d : Array Int) : (putRow eU w g off d).heap[g]? = w.heap[g]?.map (onCells (putCells eU off d)) := by
  simp [putRow, mapBlock, Array.getElem?_modify]
theorem row_grownBy (w : World) (g off : Nat) (d : Array Int) : w.grownBy (putRow eU w g off d) (some g) :=
  ⟨rfl, rfl, rfl, by simp [putRow, mapBlock], fun k _ hk => by
    have hne : g ≠ k := fun h => hk (by rw [h])
    simp [putRow, mapBlock, Array.getElem?_modify, hne]⟩
theorem grown_trans {a b c : World} {r : Option Nat} (h : a.grownBy b r) (k : b.grownBy c r) : a.grownBy c r :=
  ⟨k.os.trans h.os, k.tape.trans h.tape, k.output.trans h.output, Nat.le_trans h.size k.size, fun i hi hn => (k.block i (Nat.lt_of_lt_of_le hi h.size) hn).trans (h.block i hi hn)⟩
theorem grown_weak {a b : World} {r : Option Nat} (h : a.grownBy b none) : a.grownBy b r := ⟨h.os, h.tape, h.output, h.size, fun i hi _ => h.block i hi (by simp)⟩
section
variable {w W V : World} {g off : Nat} {d e : Array Int}
theorem UG.refl (hH : Holds eU w g off d) : UG w g off d w := ⟨World.grownBy.refl _ _, by rw [putRow_self _ _ _ _ _ hH]⟩
theorem UG.ofRow (h : URow w g off d W) : UG w g off d W := by
  obtain ⟨n, rfl⟩ := h
  have h := row_grownBy (Sort.ahead w n) g off d
  exact ⟨⟨h.os, h.tape, h.output, h.size, h.block⟩, by rw [row_block, row_block]; rfl⟩
theorem UG.holds (h : UG w g off e W) (hH : Holds eU w g off d) (hs : e.size = d.size) : Holds eU W g off e := fun j hj => by
  have k := holds_putRow eU w g off d e hH hs j hj
  exact ⟨(World.cell?_of_block (a := ⟨g, off + j, none⟩) h.2).trans k.1, (World.frozen?_of_block (a := ⟨g, off + j, none⟩) h.2).trans k.2⟩
theorem UG.lt (h : UG w g off e W) (hg : g < w.heap.size) : g < W.heap.size := Nat.lt_of_lt_of_le hg h.1.size
theorem UG.trans (h : UG w g off d W) (k : UG W g off e V) (hs : e.size = d.size) : UG w g off e V := by
  refine ⟨grown_trans h.1 k.1, ?_⟩
  rw [k.2, row_block, h.2, ← row_block (putRow eU w g off d), putRow_putRow _ _ _ _ _ _ hs]
theorem UG.same (h : UG w g off d W) (k : W.grownBy V none) (hg : g < w.heap.size) : UG w g off d V :=
  ⟨grown_trans h.1 (grown_weak k), (k.block g (h.lt hg) (by simp)).trans h.2⟩
/-- A change in another block, a newer one. -/
theorem UG.aside {p : Nat} (h : UG w g off d W) (k : W.grownBy V (some p)) (hp : w.heap.size ≤ p) (hg : g < w.heap.size) : UG w g off d V :=
  ⟨⟨k.os.trans h.1.os, k.tape.trans h.1.tape, k.output.trans h.1.output, Nat.le_trans h.1.size k.size, fun i hi hn => (k.block i (Nat.lt_of_lt_of_le hi h.1.size) (by simp; omega)).trans (h.1.block i hi hn)⟩, (k.block g (h.lt hg) (by simp; omega)).trans h.2⟩
theorem UG.drewN (h : UG w g off d W) (n : Nat) : UG w g off d (W.drewN n) := ⟨⟨h.1.os, h.1.tape, h.1.output, h.1.size, h.1.block⟩, h.2⟩
theorem UG.cell (h : UG w g off e W) (hH : Holds eU w g off d) (hs : e.size = d.size) {t : Nat} (ht : t < d.size) : W.cell? ⟨g, off + t, none⟩ = some (.int .u32 e[t]!) := (h.holds hH hs t (by omega)).1
theorem UG.frozen (h : UG w g off e W) (hH : Holds eU w g off d) (hs : e.size = d.size) {t : Nat} (ht : t < d.size) : W.frozen? ⟨g, off + t, none⟩ = false := (h.holds hH hs t (by omega)).2
theorem set_block {U : World} (h : W.heap[g]? = U.heap[g]?) (o : Nat) (v : Value) : (W.setCell ⟨g, o, none⟩ v).heap[g]? = (U.setCell ⟨g, o, none⟩ v).heap[g]? := by
  rw [setCell_eq, setCell_eq]
  simp [mapBlock, Array.getElem?_modify, h]
theorem UG.swap (h : UG w g off e W) (q : Nat) {j k : Nat} (hj : j < e.size) (hk : k < e.size) : UG w g off (swp e j k) (((W.drewN q).setCell ⟨g, off + j, none⟩ (.int .u32 e[k]!)).setCell ⟨g, off + k, none⟩ (.int .u32 e[j]!)) := by
  refine ⟨grown_trans (grown_trans (h.drewN q).1 (gSet (W.drewN q) _ _)) (gSet _ _ _), ?_⟩
  have h2 : (W.drewN q).heap[g]? = (putRow eU w g off e).heap[g]? := h.2
  have k2 := set_block (set_block h2 (off + j) (.int .u32 e[k]!)) (off + k) (.int .u32 e[j]!)
  rw [putRow_swp eU w g off e j k hj hk] at k2
  exact k2
end

theorem holds_alloc {w : World} {g off : Nat} {d : Array Int} (h : Holds eU w g off d) (o : Obj) : Holds eU (w.alloc o) g off d := fun j hj => by
  obtain ⟨h1, h2⟩ := h j hj
  have hlt : g < w.heap.size := cell_lt h1
  have hb : (w.alloc o).heap[g]? = w.heap[g]? := (World.grownBy_alloc w o none).block g hlt (by simp)
  exact ⟨(World.cell?_of_block (a := ⟨g, off + j, none⟩) hb).trans h1, (World.frozen?_of_block (a := ⟨g, off + j, none⟩) hb).trans h2⟩
theorem alloc_none {w w' : World} {o : Obj} (h : (w.alloc o).grownBy w' (some w.heap.size)) : w.grownBy w' none :=
  ⟨h.os, h.tape, h.output, Nat.le_trans (by simp) h.size, fun k hk _ => (h.block k (by simp; omega) (by simp; omega)).trans ((World.grownBy_alloc w o none).block k hk (by simp))⟩
theorem hint_key (s : Nat) : (s = 0 ∧ hintCode (hintOf s) = 1) ∨ (s = 12 ∧ hintCode (hintOf s) = 2) ∨ (s ≠ 0 ∧ s ≠ 12 ∧ hintCode (hintOf s) = 0) := by
  unfold hintOf
  by_cases h0 : s = 0
  · exact .inl ⟨h0, by rw [if_pos h0]; rfl⟩
  · by_cases h1 : s = 12
    · exact .inr (.inl ⟨h1, by rw [if_neg h0, if_pos h1]; rfl⟩)
    · exact .inr (.inr ⟨h0, h1, by rw [if_neg h0, if_neg h1]; rfl⟩)

/-- The world in which the swaps have been counted up to s. -/
def PW (w : World) (s : Nat) (W : World) : Prop := Cnt w.heap.size (w.alloc (.cells #[.int .i64 0] 3)) s W
theorem PW.cell {w W : World} {s : Nat} (h : PW w s W) : W.cell? ⟨w.heap.size, 0, none⟩ = some (.int .i64 s) := h.2.cell 0
theorem PW.none_ {w W : World} {s : Nat} (h : PW w s W) : w.grownBy W none := alloc_none h.1
theorem PW.zero (w : World) : PW w 0 (w.alloc (.cells #[.int .i64 0] 3)) := ⟨World.grownBy.refl _ _, Bk.new _ _ _⟩
def TwoI (p h : Int) (w : World) (e : Ending) (w' : World) : Prop := e = .returned (.tuple #[.int .i64 p, .int .i64 h]) ∧ w.grownBy w' none
theorem TwoI.mk {p h : Int} {w w' : World} {s : Nat} (k : PW w s w') {q : Int} (hq : h = q) : TwoI p h w (.returned (.tuple #[.int .i64 p, .int .i64 q])) w' := ⟨by rw [hq], k.none_⟩

set_option maxHeartbeats 2000000 in
set_option maxRecDepth 100000 in
theorem u_pivot (g off cap a b : Nat) (d : Array Int) (w : World) (hH : Holds eU w g off d) (hg : g < w.heap.size) (hab : a < b) (hb : b ≤ d.size) (hsz : d.size ≤ 1000000) :
    Calls Tryz.prog 128 #[.slice (some ⟨g, off, none⟩) d.size cap, .int .i64 a, .int .i64 b] w (TwoI (choosePivot ltInt d a b).1 (hintCode (choosePivot ltInt d a b).2) w) := by
  have hH0 := holds_alloc hH (.cells #[.int .i64 0] 3)
  have hne : g ≠ w.heap.size := by omega
  have KA : ∀ (x s : Nat) (W : World), 1 ≤ x → x + 1 < d.size → s ≤ 900 → PW w s W → Calls Tryz.prog 169 #[.slice (some ⟨g, off, none⟩) d.size cap, .int .i64 x, .pointer (some ⟨w.heap.size, 0, none⟩)] W fun e w' => e = .returned (.int .i64 (medianAdjacent ltInt d x s).1) ∧ PW w (medianAdjacent ltInt d x s).2 w' :=
    fun x s W h1 h2 h3 hC => (u_medianAdj g off cap x s _ d W (holds_grown hH0 hC.1 hne) h1 h2 hsz h3 hC.2 hne).mono fun _ _ ⟨he, hc⟩ => ⟨he, cnt_trans hC hc⟩
  have KM : ∀ (x y z s : Nat) (W : World), x < d.size → y < d.size → z < d.size → s ≤ 900 → PW w s W → Calls Tryz.prog 170 #[.slice (some ⟨g, off, none⟩) d.size cap, .int .i64 x, .int .i64 y, .int .i64 z, .pointer (some ⟨w.heap.size, 0, none⟩)] W fun e w' => e = .returned (.int .i64 (median ltInt d x y z s).1) ∧ PW w (median ltInt d x y z s).2 w' :=
    fun x y z s W h1 h2 h3 h4 hC => (u_median g off cap x y z s _ d W (holds_grown hH0 hC.1 hne) h1 h2 h3 h4 hC.2 hne).mono fun _ _ ⟨he, hc⟩ => ⟨he, cnt_trans hC hc⟩
  rw [choosePivot_eq]
  obtain ⟨I, hI⟩ : ∃ I : Nat, I = a + (b - a) / 4 * 1 := ⟨_, rfl⟩
  obtain ⟨J, hJ⟩ : ∃ J : Nat, J = a + (b - a) / 4 * 2 := ⟨_, rfl⟩
  obtain ⟨K, hK⟩ : ∃ K : Nat, K = a + (b - a) / 4 * 3 := ⟨_, rfl⟩
  have eI : ((a : Int) + ((b : Int) - (a : Int)) / 4) = (I : Int) := by omega
  have eJ : ((a : Int) + ((b : Int) - (a : Int)) / 4 * 2) = (J : Int) := by omega
  have eK : ((a : Int) + ((b : Int) - (a : Int)) / 4 * 3) = (K : Int) := by omega
  by_cases h8 : b - a ≥ 8
  · by_cases h50 : b - a ≥ 50
    · obtain ⟨i1, s1, h1⟩ : ∃ i1 s1, medianAdjacent ltInt d I 0 = (i1, s1) := ⟨_, _, rfl⟩
      obtain ⟨j1, s2, h2⟩ : ∃ j1 s2, medianAdjacent ltInt d J s1 = (j1, s2) := ⟨_, _, rfl⟩
      obtain ⟨k1, s3, h3⟩ : ∃ k1 s3, medianAdjacent ltInt d K s2 = (k1, s3) := ⟨_, _, rfl⟩
      obtain ⟨p, s, h4⟩ : ∃ p s, median ltInt d i1 j1 k1 s3 = (p, s) := ⟨_, _, rfl⟩
      have hraw : rawPivot ltInt d a b = (p, s) := by simp only [rawPivot, if_pos h8, if_pos h50, ← hI, ← hJ, ← hK, h1, h2, h3, h4]
      have m1 := medianAdjacent_mem ltInt d I 0; rw [h1] at m1
      have m2 := medianAdjacent_mem ltInt d J s1; rw [h2] at m2
      have m3 := medianAdjacent_mem ltInt d K s2; rw [h3] at m3
      have n1 := medianAdjacent_count ltInt d I 0; rw [h1] at n1
      have n2 := medianAdjacent_count ltInt d J s1; rw [h2] at n2
      have n3 := medianAdjacent_count ltInt d K s2; rw [h3] at n3
      simp only [] at m1 m2 m3 n1 n2 n3
      have C1 := KA I 0 _ (by omega) (by omega) (by omega) (PW.zero w)
      have C2 := fun W => KA J s1 W (by omega) (by omega) (by omega)
      have C3 := fun W => KA K s2 W (by omega) (by omega) (by omega)
      have C4 := fun W => KM i1 j1 k1 s3 W (by omega) (by omega) (by omega) (by omega)
      rw [h1] at C1; rw [h2] at C2; rw [h3] at C3; rw [h4] at C4
      have G1 := Lib.hid C1
      have G2 := Lib.hid C2
      have G3 := Lib.hid C3
      have G4 := Lib.hid C4
      rw [hraw]
      have KEY := Lib.hid (hint_key s)
      clear h1 h2 h3 h4 hraw C1 C2 C3 C4 KA KM m1 m2 m3 n1 n2 n3 hI hJ hK hH hH0
      obtain ⟨hc, hhc⟩ : ∃ x, hintCode (hintOf s) = x := ⟨_, rfl⟩
      show Calls Tryz.prog _ _ w (TwoI p (hintCode (hintOf s)) w)
      rw [hhc] at KEY ⊢
      clear hhc
      go_enter Tryz.func128, Tryz.ntmps128
      go_wp2_with fail
      refine G1.out.mono ?_
      rintro e w1 ⟨rfl, hp1⟩
      have P1 := Lib.hid hp1
      clear hp1
      go_wp2_with fail
      refine (G2.out _ P1.out).mono ?_
      rintro e w2 ⟨rfl, hp2⟩
      have P2 := Lib.hid hp2
      clear hp2
      go_wp2_with fail
      refine (G3.out _ P2.out).mono ?_
      rintro e w3 ⟨rfl, hp3⟩
      have P3 := Lib.hid hp3
      clear hp3
      go_wp2_with fail
      refine (G4.out _ P3.out).mono ?_
      rintro e w4 ⟨rfl, hp4⟩
      have P4 := Lib.hid hp4
      have V4 := hp4.cell
      clear hp4
      rcases KEY.out with ⟨e0, e1⟩ | ⟨e0, e1⟩ | ⟨e0, e1, e2⟩
      · have t0 : ((s : Int) == 0) = true := by simp; omega
        have E1 := Lib.hid e1
        clear e0 e1 KEY
        go_wp2
        go_ret2
        exact TwoI.mk P4.out E1.out
      · have t0 : ((s : Int) == 0) = false := by simp; omega
        have t1 : ((s : Int) == 12) = true := by simp; omega
        have E1 := Lib.hid e1
        clear e0 e1 KEY
        go_wp2
        go_ret2
        exact TwoI.mk P4.out E1.out
      · have t0 : ((s : Int) == 0) = false := by simp; omega
        have t1 : ((s : Int) == 12) = false := by simp; omega
        have E1 := Lib.hid e2
        clear e0 e1 e2 KEY
        go_wp2
        go_ret2
        exact TwoI.mk P4.out E1.out
    · obtain ⟨p, s, h4⟩ : ∃ p s, median ltInt d I J K 0 = (p, s) := ⟨_, _, rfl⟩
      have hraw : rawPivot ltInt d a b = (p, s) := by simp only [rawPivot, if_pos h8, if_neg h50, ← hI, ← hJ, ← hK, h4]
      have C4 := KM I J K 0 _ (by omega) (by omega) (by omega) (by omega) (PW.zero w)
      rw [h4] at C4
      have G4 := Lib.hid C4
      rw [hraw]
      have KEY := Lib.hid (hint_key s)
      clear h4 hraw C4 KA KM hI hJ hK hH hH0
      obtain ⟨hc, hhc⟩ : ∃ x, hintCode (hintOf s) = x := ⟨_, rfl⟩
      show Calls Tryz.prog _ _ w (TwoI p (hintCode (hintOf s)) w)
      rw [hhc] at KEY ⊢
      clear hhc
      go_enter Tryz.func128, Tryz.ntmps128
      go_wp2_with fail
      refine G4.out.mono ?_
      rintro e w4 ⟨rfl, hp4⟩
      have P4 := Lib.hid hp4
      have V4 := hp4.cell
      clear hp4
      rcases KEY.out with ⟨e0, e1⟩ | ⟨e0, e1⟩ | ⟨e0, e1, e2⟩
      · have t0 : ((s : Int) == 0) = true := by simp; omega
        have E1 := Lib.hid e1
        clear e0 e1 KEY
        go_wp2
        go_ret2
        exact TwoI.mk P4.out E1.out
      · have t0 : ((s : Int) == 0) = false := by simp; omega
        have t1 : ((s : Int) == 12) = true := by simp; omega
        have E1 := Lib.hid e1
        clear e0 e1 KEY
        go_wp2
        go_ret2
        exact TwoI.mk P4.out E1.out
      · have t0 : ((s : Int) == 0) = false := by simp; omega
        have t1 : ((s : Int) == 12) = false := by simp; omega
        have E1 := Lib.hid e2
        clear e0 e1 e2 KEY
        go_wp2
        go_ret2
        exact TwoI.mk P4.out E1.out
  · have hraw : rawPivot ltInt d a b = (J, 0) := by simp only [rawPivot, if_neg h8, ← hJ]
    rw [hraw]
    have Z := Lib.hid (PW.zero w)
    clear KA KM hI hJ hK hH hH0 hraw
    show Calls Tryz.prog _ _ w (TwoI J 1 w)
    go_enter Tryz.func128, Tryz.ntmps128
    go_wp2
    go_ret2
    exact TwoI.mk Z.out rfl
end Go.Proofs.YtgheloooibafcaaGreatDoor
