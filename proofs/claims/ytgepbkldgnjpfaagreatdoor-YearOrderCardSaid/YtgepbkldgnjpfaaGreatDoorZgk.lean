/- Out of: SoB. -/
import Derived.Test.YtgepbkldgnjpfaaGreatDoorZgj
import Derived.Below
import Derived.BigQuiet
import Derived.BigRegion
import Derived.Deep.Cut
import Derived.Deep.CutRange
import Derived.Deep.QuietTactic
import Derived.Laws.AppendOwn
import Derived.Laws.Rows
import Derived.Lib.Hide
import Derived.OwnWalk
import Derived.Shelf.SlSortCmp.QuietGrown
import Derived.WalkKit
/- The stable sort of moves, by Go's text, second part. (gen/turnm.py.) -/
namespace Go.Proofs.YtgepbkldgnjpfaaGreatDoor.Ao
open Go.RowKit Go.Sort Go.BigFrame

section
variable {D A L R Z : List Eo} {a m b N mid n s0 r0 : Nat}
/-- Where the search begins and ends. -/
def Ends (a m b mid n s0 r0 : Nat) : Prop := mid = (a + b) / 2 ∧ n = mid + m ∧ a + 1 < m ∧ m + 1 < b ∧ ((mid < m ∧ s0 = n - b ∧ r0 = mid) ∨ (m ≤ mid ∧ s0 = a ∧ r0 = m))
theorem Ends.rng (h : Ends a m b mid n s0 r0) : a ≤ s0 ∧ s0 ≤ r0 ∧ r0 ≤ m ∧ r0 ≤ mid ∧ a < mid ∧ mid < b ∧ n = mid + m := by
  obtain ⟨h1, h2, h3, h4, h5 | h5⟩ := h <;> omega
theorem Ends.at_ (h : Ends a m b mid n s0 r0) {c : Nat} (h1 : s0 ≤ c) (h2 : c < r0) : a ≤ c ∧ c < m ∧ c + 1 ≤ n ∧ m ≤ n - 1 - c ∧ n - 1 - c < b := by
  obtain ⟨h3, h4, h5, h6, h7 | h7⟩ := h <;> omega
theorem Two.lo (h : Two D A L R Z a m b N) (he : Ends a m b mid n s0 r0) {c : Nat} (h1 : s0 ≤ c) (h2 : c < r0) (hc : ke D c ≤ ke D (n - 1 - c)) : ∀ c', s0 ≤ c' → c' < c + 1 → ke D c' ≤ ke D (n - 1 - c') := fun c' h3 h4 => by
  have e1 := he.at_ h1 h2
  have e2 := he.at_ h3 (show c' < r0 by omega)
  have l1 := h.leL (i := c') (j := c) e2.1 (by omega) e1.2.1
  have l2 := h.leR (i := n - 1 - c) (j := n - 1 - c') e1.2.2.2.1 (by omega) e2.2.2.2.2
  omega
theorem Two.hi (h : Two D A L R Z a m b N) (he : Ends a m b mid n s0 r0) {c : Nat} (h1 : s0 ≤ c) (h2 : c < r0) (hc : ke D (n - 1 - c) < ke D c) : ∀ c', c ≤ c' → c' < r0 → ke D (n - 1 - c') < ke D c' := fun c' h3 h4 => by
  have e1 := he.at_ h1 h2
  have e2 := he.at_ (show s0 ≤ c' by omega) h4
  have l1 := h.leL (i := c) (j := c') e1.1 (by omega) e2.2.1
  have l2 := h.leR (i := n - 1 - c') (j := n - 1 - c) e2.2.2.2.1 (by omega) e1.2.2.2.2
  omega
theorem Two.sym (h : Two D A L R Z a m b N) (he : Ends a m b mid n s0 r0) {s : Nat} (hs : s0 ≤ s) (hr : s ≤ r0) (hlo : ∀ c, s0 ≤ c → c < s → ke D c ≤ ke D (n - 1 - c)) (hhi : ∀ c, s ≤ c → c < r0 → ke D (n - 1 - c) < ke D c) :
    ∃ L1 L2 R1 R2, L = L1 ++ L2 ∧ R = R1 ++ R2 ∧ a + L1.length = s ∧ s + L2.length = m ∧ m + R1.length = n - s ∧ n - s + R2.length = b ∧ s + R1.length = mid ∧ mid + L2.length = n - s ∧ mg lt L R = mg lt L1 R1 ++ mg lt L2 R2 := by
  have e0 := he.rng
  have hlm := h.lm
  have hlb := h.lb
  have eb : n - s ≤ b := by obtain ⟨h3, h4, h5, h6, h7 | h7⟩ := he <;> omega
  refine ⟨L.take (s - a), L.drop (s - a), R.take (n - s - m), R.drop (n - s - m), (List.take_append_drop _ _).symm, (List.take_append_drop _ _).symm, ?_, ?_, ?_, ?_, ?_, ?_, ?_⟩
  · rw [List.length_take]; omega
  · rw [List.length_drop]; omega
  · rw [List.length_take]; omega
  · rw [List.length_drop]; omega
  · rw [List.length_take]; omega
  · rw [List.length_drop]; omega
  · refine h.cut s (n - s) (by omega) (by omega) (fun i j h1 h2 h3 h4 => ?_) (fun i j h1 h2 h3 h4 => ?_)
    · by_cases hc : s0 < s
      · have k := hlo (s - 1) (by omega) (by omega)
        have k1 := h.leL (i := i) (j := s - 1) h1 (by omega) (by omega)
        rw [show n - 1 - (s - 1) = n - s by omega] at k
        have k2 := h.leR (i := n - s) (j := j) (by omega) h3 h4
        omega
      · obtain ⟨h5, h6, h7, h8, h9 | h9⟩ := he <;> omega
    · by_cases hc : s < r0
      · have k := hhi s (Nat.le_refl _) hc
        have k1 := h.leL (i := s) (j := i) (by omega) h1 h2
        have k2 := h.leR (i := j) (j := n - 1 - s) h3 (by omega) (by omega)
        omega
      · obtain ⟨h5, h6, h7, h8, h9 | h9⟩ := he <;> omega
end

/-- What is shown of a merge of at most f elements. -/
def SymOk (f : Nat) : Prop := ∀ (g cap N a m b : Nat) (D A L R Z : List Eo) (w : World), b ≤ a + f → Two D A L R Z a m b N → N ≤ 1000000 → a < m → m < b → RowE g cap D w →
    Calls Tryz.prog 176 #[.slice (some ⟨g, 0, none⟩) N cap, .int .i64 a, .int .i64 m, .int .i64 b, .func (.func 107) #[] #[]] w fun e w' =>
      e = .returned (.tuple #[]) ∧ w.grownBy w' (some g) ∧ RowE g cap (A ++ mg lt L R ++ Z) w'

set_option maxHeartbeats 4000000 in
set_option maxRecDepth 100000 in
theorem symMerge_step (f : Nat) (IH0 : SymOk f) (g cap N a m b : Nat) (D A L R Z : List Eo) (w : World) (hf : b ≤ a + (f + 1)) (h2 : Two D A L R Z a m b N) (hn : N ≤ 1000000) (x1 : a + 1 < m) (x2 : m + 1 < b) (hr : RowE g cap D w) :
    Calls Tryz.prog 176 #[.slice (some ⟨g, 0, none⟩) N cap, .int .i64 a, .int .i64 m, .int .i64 b, .func (.func 107) #[] #[]] w fun e w' =>
      e = .returned (.tuple #[]) ∧ w.grownBy w' (some g) ∧ RowE g cap (A ++ mg lt L R ++ Z) w' := by
    obtain ⟨mid, hmid⟩ : ∃ x, (a + b) / 2 = x := ⟨_, rfl⟩
    obtain ⟨n, hnn⟩ : ∃ x, mid + m = x := ⟨_, rfl⟩
    have IH := Lib.hid (And.intro hf IH0)
    have hbN := h2.bn
    have b1 : ((m : Int) - a == 1) = false := by simp; omega
    have b2 : ((b : Int) - m == 1) = false := by simp; omega
    have w0 : IntKind.i64.wrap ((m : Int) - a) = (m : Int) - a := IntWalk.i64_in _ (by omega)
    have w1 : IntKind.i64.wrap ((b : Int) - m) = (b : Int) - m := IntWalk.i64_in _ (by omega)
    have w2 : IntKind.i64.wrap ((a : Int) + b) = (a : Int) + b := IntWalk.i64_in _ (by omega)
    have w3 : ((a : Int) + b) / 2 = (mid : Int) := by omega
    have w4 : IntKind.i64.wrap ((mid : Int) + m) = (n : Int) := by rw [IntWalk.i64_in _ (by omega)]; omega
    have w6 : IntKind.i64.wrap ((n : Int) - 1) = (n : Int) - 1 := IntWalk.i64_in _ (by omega)
    have HM := Lib.hid (And.intro hmid hnn)
    have r1 : a < mid := by omega
    have r2 : mid < b := by omega
    have r3 : n < 2000000 := by omega
    clear IH0 hmid hnn hf
    by_cases hc : mid < m
    · obtain ⟨s0, hs0e⟩ : ∃ x, n - b = x := ⟨_, rfl⟩
      have hE : Ends a m b mid n s0 mid := by have := HM.out; unfold Ends; omega
      have w5 : IntKind.i64.wrap ((n : Int) - b) = (s0 : Int) := by rw [IntWalk.i64_in _ (by omega)]; have := HM.out; omega
      have hcb : decide ((m : Int) > (mid : Int)) = true := by simp; omega
      have hcb2 : decide ((mid : Int) < (m : Int)) = true := by simp; omega
      clear hs0e
      have e0 := hE.rng
      have HE := Lib.hid hE
      obtain ⟨q1, q2, q3, q4, q5, q6, q7⟩ := e0
      have HQ := Lib.hid q7
      clear hE q7
      go_enter Tryz.func176, Tryz.ntmps176
      go_wp2
      go_loopw [20, 21] (fun sv rv wr => ∃ s r : Nat, s0 ≤ s ∧ s ≤ r ∧ r ≤ mid ∧ sv = .int .i64 s ∧ rv = .int .i64 r ∧ w.grownBy wr (some g) ∧ RowE g cap D wr ∧ (∀ c, s0 ≤ c → c < s → ke D c ≤ ke D (n - 1 - c)) ∧ (∀ c, r ≤ c → c < mid → ke D (n - 1 - c) < ke D c)) (fun sv rv _ => (intOf rv).toNat - (intOf sv).toNat)
      case atStart => exact ⟨s0, mid, by omega, by omega, by omega, rfl, rfl, World.grownBy.refl _ _, hr, fun t h3 h4 => (by omega), fun t h3 h4 => (by omega)⟩
      case round =>
        obtain ⟨s, r, hs0, hsr, hr0, rfl, rfl, hg, hrr, hlo, hhi⟩ := hrel
        by_cases hlt : s < r
        · obtain ⟨c, hh⟩ : ∃ h, (s + r) / 2 = h := ⟨_, rfl⟩
          have e1 := HE.out.at_ (c := c) (by omega) (by omega)
          obtain ⟨pc, hpc⟩ : ∃ x, n - 1 - c = x := ⟨_, rfl⟩
          obtain ⟨⟨xa, fa⟩, hxa⟩ : ∃ x, D[pc]? = some x := ⟨_, List.getElem?_eq_getElem (by have := h2.len; omega)⟩
          obtain ⟨⟨xh, fh⟩, hxh⟩ : ∃ x, D[c]? = some x := ⟨_, List.getElem?_eq_getElem (by have := h2.len; omega)⟩
          have wi : IntKind.i64.wrap ((s : Int) + r) = (s : Int) + r := IntWalk.i64_in _ (by omega)
          have hzz : ((s : Int) + r) / 2 = (c : Int) := by omega
          have wj : IntKind.i64.wrap ((n : Int) - 1 - c) = (pc : Int) := by rw [IntWalk.i64_in _ (by omega)]; omega
          have hih : s ≤ c := by omega
          have hhj : c < r := by omega
          have hcN : (c : Int) < (N : Int) := by omega
          have hpN : (pc : Int) < (N : Int) := by omega
          obtain ⟨pa, hpa⟩ : ∃ p, pc * 6 = p := ⟨_, rfl⟩
          obtain ⟨ph, hph⟩ : ∃ p, c * 6 = p := ⟨_, rfl⟩
          have hgw := hrr.lt
          have c1 : ∀ n os, (Sort.grow (wr.drewN n) os).cell? ⟨g, pa, none⟩ = some (.string fa.1.co) := fun n os => cell_grown hgw (hpa ▸ Rw.cell hrr hxa (j := 0) rfl) n os
          have c2 : ∀ n os, (Sort.grow (wr.drewN n) os).cell? ⟨g, pa + 1, none⟩ = some (.int .i64 fa.1.ra) := fun n os => cell_grown hgw (hpa ▸ Rw.cell hrr hxa (j := 1) rfl) n os
          have c3 : ∀ n os, (Sort.grow (wr.drewN n) os).cell? ⟨g, pa + 2, none⟩ = some (.int .i64 fa.1.rt) := fun n os => cell_grown hgw (hpa ▸ Rw.cell hrr hxa (j := 2) rfl) n os
          have c4 : ∀ n os, (Sort.grow (wr.drewN n) os).cell? ⟨g, pa + 3, none⟩ = some (.int .i64 fa.1.fx) := fun n os => cell_grown hgw (hpa ▸ Rw.cell hrr hxa (j := 3) rfl) n os
          have c5 : ∀ n os, (Sort.grow (wr.drewN n) os).cell? ⟨g, pa + 4, none⟩ = some (.int .i64 fa.1.pr) := fun n os => cell_grown hgw (hpa ▸ Rw.cell hrr hxa (j := 4) rfl) n os
          have c6 : ∀ n os, (Sort.grow (wr.drewN n) os).cell? ⟨g, pa + 5, none⟩ = some (.int .i64 fa.1.tt) := fun n os => cell_grown hgw (hpa ▸ Rw.cell hrr hxa (j := 5) rfl) n os
          have c7 : ∀ n os, (Sort.grow (wr.drewN n) os).cell? ⟨g, ph, none⟩ = some (.string fh.1.co) := fun n os => cell_grown hgw (hph ▸ Rw.cell hrr hxh (j := 0) rfl) n os
          have c8 : ∀ n os, (Sort.grow (wr.drewN n) os).cell? ⟨g, ph + 1, none⟩ = some (.int .i64 fh.1.ra) := fun n os => cell_grown hgw (hph ▸ Rw.cell hrr hxh (j := 1) rfl) n os
          have c9 : ∀ n os, (Sort.grow (wr.drewN n) os).cell? ⟨g, ph + 2, none⟩ = some (.int .i64 fh.1.rt) := fun n os => cell_grown hgw (hph ▸ Rw.cell hrr hxh (j := 2) rfl) n os
          have c10 : ∀ n os, (Sort.grow (wr.drewN n) os).cell? ⟨g, ph + 3, none⟩ = some (.int .i64 fh.1.fx) := fun n os => cell_grown hgw (hph ▸ Rw.cell hrr hxh (j := 3) rfl) n os
          have c11 : ∀ n os, (Sort.grow (wr.drewN n) os).cell? ⟨g, ph + 4, none⟩ = some (.int .i64 fh.1.pr) := fun n os => cell_grown hgw (hph ▸ Rw.cell hrr hxh (j := 4) rfl) n os
          have c12 : ∀ n os, (Sort.grow (wr.drewN n) os).cell? ⟨g, ph + 5, none⟩ = some (.int .i64 fh.1.tt) := fun n os => cell_grown hgw (hph ▸ Rw.cell hrr hxh (j := 5) rfl) n os
          have k1 := ke_some hxa
          have k2 := ke_some hxh
          have lo : ¬ xa < xh → ∀ t, s0 ≤ t → t < c + 1 → ke D t ≤ ke D (n - 1 - t) := fun h3 => h2.lo HE.out (by omega) (by omega) (by rw [hpc, k1, k2]; show xh ≤ xa; omega)
          have hi : xa < xh → ∀ t, c ≤ t → t < mid → ke D (n - 1 - t) < ke D t := fun h3 => h2.hi HE.out (by omega) (by omega) (by rw [hpc, k1, k2]; exact h3)
          have KK := Lib.hid (And.intro lo (And.intro hi (And.intro hlo hhi)))
          have HH := Lib.hid hh
          have HR := Lib.hid hrr
          clear lo hi hlo hhi k1 k2 hxa hxh hrr hr hh hpc e1
          go_wp2_with fail
          refine wp_region_quiet_grown (by kernel_rfl) (by kernel_rfl) ?_
          repeat (go_big_quiet_step (refine Calls.grown_of (cmpK' xa xh fa fh _)))
          refine wpQuiet_nil ?_
          intro _ hw'
          obtain ⟨⟨nq, osq⟩, hw''⟩ := hw'
          subst hw''
          have hg3 := gGrow hg nq osq
          have hr4 : RowE g cap _ _ := Rw.grow (HR.out.drewN nq) osq
          have HR4 := Lib.hid hr4
          clear hr4 c1 c2 c3 c4 c5 c6 c7 c8 c9 c10 c11 c12
          obtain ⟨hc1, hc2⟩ := cf_neg xa xh
          generalize cf xa xh = cc at *
          generalize Sort.grow (wr.drewN nq) osq = wq at *
          by_cases hlt2 : xa < xh
          · have hcc := hc1 hlt2
            have hd : decide (cc < 0) = true := decide_eq_true hcc
            clear hc1 hc2
            rw [hd]
            clear hd
            go_wp2
            exact ⟨⟨s, c, by omega, by omega, by omega, rfl, rfl, hg3, HR4.out, KK.out.2.2.1, KK.out.2.1 (by omega)⟩, by simp [intOf]; omega⟩
          · have hcc := hc2 hlt2
            have hd : decide (cc < 0) = false := decide_eq_false (by omega)
            clear hc1 hc2
            rw [hd]
            clear hd
            go_wp2
            exact ⟨⟨c + 1, r, by omega, by omega, by omega, by go_num, rfl, hg3, HR4.out, KK.out.1 (by omega), KK.out.2.2.2⟩, by simp [intOf]; omega⟩
        · have hsr2 : s = r := by omega
          subst hsr2
          obtain ⟨L1, L2, R1, R2, hL, hR, l1, l2, l3, l4, l5, l6, hM⟩ := h2.sym HE.out hs0 hr0 hlo hhi
          obtain ⟨e, he⟩ : ∃ x, n - s = x := ⟨_, rfl⟩
          rw [he] at l3 l4 l6
          have we : IntKind.i64.wrap ((n : Int) - s) = (e : Int) := by rw [IntWalk.i64_in _ (by omega)]; have := HM.out; omega
          have t1 : a ≤ s := by omega
          have t2 : s ≤ m := by omega
          have t3 : m ≤ e := by omega
          have t4 : e ≤ b := by omega
          have t5 : s ≤ mid := by omega
          have t6 : mid ≤ e := by omega
          have hT := h2.eq
          rw [hT, hL, hR] at hrr
          have HN := Lib.hid (show (A ++ (L1 ++ L2) ++ (R1 ++ R2) ++ Z).length = N by rw [← hL, ← hR, ← hT]; exact h2.len)
          have hsl := h2.sl
          have hsr3 := h2.sr
          rw [hL] at hsl
          rw [hR] at hsr3
          have HS := Lib.hid (And.intro (List.pairwise_append.1 hsl).1 (And.intro (List.pairwise_append.1 hsl).2.1 (And.intro (List.pairwise_append.1 hsr3).1 (List.pairwise_append.1 hsr3).2.1)))
          have HA := Lib.hid h2.la
          clear hsl hsr3
          have HR := Lib.hid hrr
          have HL := Lib.hid (And.intro l1 (And.intro l2 (And.intro l3 (And.intro l4 (And.intro l5 l6)))))
          have HD := Lib.hid (And.intro hL (And.intro hR hM))
          clear hrr hr hL hR hM l1 l2 l3 l4 l5 l6 he hT hlo hhi hlt
          go_upto_region 39 with fail
          go_cut [185] from 178 to 185 (fun q wx => q = .bool (decide (s < m ∧ m < e)) ∧ wr = wx)
          case first =>
            by_cases k1 : s < m
            · by_cases k2 : m < e
              · have d1 : decide (s < m) = true := decide_eq_true k1
                have d2 : decide (m < e) = true := decide_eq_true k2
                go_wp2
                go_meet
                exact ⟨by simp [k1, k2], rfl⟩
              · have d1 : decide (s < m) = true := decide_eq_true k1
                have d2 : decide (m < e) = false := decide_eq_false k2
                go_wp2
                go_meet
                exact ⟨by simp [k1, k2], rfl⟩
            · have d1 : decide (s < m) = false := decide_eq_false k1
              go_wp2
              go_meet
              exact ⟨by simp [k1], rfl⟩
          case rest =>
            obtain ⟨rfl, rfl⟩ := hcut
            go_upto_if 185 with fail
            go_cut [185] from 186 to 191 (fun _ wx => w.grownBy wx (some g) ∧ RowE g cap (A ++ L1 ++ R1 ++ (L2 ++ R2 ++ Z)) wx)
            case first =>
              by_cases k : s < m ∧ m < e
              · have hc := rotate g cap N s m e (A ++ L1) L2 R1 (R2 ++ Z) (.func (.func 107) #[] #[]) wr (by have := HN.out; have := HL.out; simp only [List.length_append] at *; omega) hn (by have := HL.out; have := HA.out; rw [List.length_append]; omega) HL.out.2.1 HL.out.2.2.1 (by have := HL.out; omega) (by have := HL.out; omega) (by simpa using HR.out)
                have HC := Lib.hid hc
                have kd : decide (s < m ∧ m < e) = true := decide_eq_true k
                rw [kd]
                clear hc kd
                go_wp2_with fail
                refine (HC.out).mono ?_
                rintro _ w8 ⟨rfl, hg8, hr8⟩
                have HR8 := Lib.hid hr8
                clear hr8
                go_wp2
                go_meet
                exact ⟨gTrans hg hg8, by simpa using HR8.out⟩
              · have kd : decide (s < m ∧ m < e) = false := decide_eq_false k
                rw [kd]
                clear kd
                go_wp2
                go_meet
                refine ⟨hg, ?_⟩
                have h9 := HR.out
                by_cases k3 : s < m
                · have : R1 = [] := List.length_eq_zero_iff.1 (by have := HL.out; omega)
                  simpa [this] using h9
                · have : L2 = [] := List.length_eq_zero_iff.1 (by have := HL.out; omega)
                  simpa [this] using h9
            case rest =>
              obtain ⟨hg2, hr2⟩ := hcut
              have HR2 := Lib.hid hr2
              clear hr2
              obtain ⟨w9, rfl⟩ : ∃ w9 : World, w9 = wc := ⟨_, rfl⟩
              go_upto_region 41 with fail
              go_cut [199] from 192 to 199 (fun q wx => q = .bool (decide (a < s ∧ s < mid)) ∧ w9 = wx)
              case first =>
                by_cases k1 : a < s
                · by_cases k2 : s < mid
                  · have d1 : decide (a < s) = true := decide_eq_true k1
                    have d2 : decide (s < mid) = true := decide_eq_true k2
                    go_wp2
                    go_meet
                    exact ⟨by simp [k1, k2], rfl⟩
                  · have d1 : decide (a < s) = true := decide_eq_true k1
                    have d2 : decide (s < mid) = false := decide_eq_false k2
                    go_wp2
                    go_meet
                    exact ⟨by simp [k1, k2], rfl⟩
                · have d1 : decide (a < s) = false := decide_eq_false k1
                  go_wp2
                  go_meet
                  exact ⟨by simp [k1], rfl⟩
              case rest =>
                obtain ⟨rfl, rfl⟩ := hcut
                go_upto_if 199 with fail
                go_cut [199] from 200 to 205 (fun _ wx => w.grownBy wx (some g) ∧ RowE g cap ((A ++ mg lt L1 R1) ++ L2 ++ R2 ++ Z) wx)
                case first =>
                  by_cases k : a < s ∧ s < mid
                  · have hc := IH.out.2 g cap N a s mid _ A L1 R1 (L2 ++ R2 ++ Z) w9 (by have := IH.out.1; omega) ⟨rfl, by have := HN.out; simp only [List.length_append] at *; omega, HA.out, HL.out.1, HL.out.2.2.2.2.1, HS.out.1, HS.out.2.2.1⟩ hn k.1 k.2 HR2.out
                    have HC := Lib.hid hc
                    have kd : decide (a < s ∧ s < mid) = true := decide_eq_true k
                    rw [kd]
                    clear hc kd
                    go_wp2_with fail
                    refine (HC.out).mono ?_
                    rintro _ w8 ⟨rfl, hg8, hr8⟩
                    have HR8 := Lib.hid hr8
                    clear hr8
                    go_wp2
                    go_meet
                    exact ⟨gTrans hg2 hg8, by simpa using HR8.out⟩
                  · have kd : decide (a < s ∧ s < mid) = false := decide_eq_false k
                    rw [kd]
                    clear kd
                    go_wp2
                    go_meet
                    refine ⟨hg2, ?_⟩
                    have h9 := HR2.out
                    by_cases k3 : a < s
                    · have : R1 = [] := List.length_eq_zero_iff.1 (by have := HL.out; omega)
                      simpa [this] using h9
                    · have : L1 = [] := List.length_eq_zero_iff.1 (by have := HL.out; omega)
                      simpa [this] using h9
                case rest =>
                  obtain ⟨hg3, hr3⟩ := hcut
                  have HR3 := Lib.hid hr3
                  clear hr3
                  obtain ⟨w7, rfl⟩ : ∃ w7 : World, w7 = wc := ⟨_, rfl⟩
                  go_upto_region 43 with fail
                  go_cut [213] from 206 to 213 (fun q wx => q = .bool (decide (mid < e ∧ e < b)) ∧ w7 = wx)
                  case first =>
                    by_cases k1 : mid < e
                    · by_cases k2 : e < b
                      · have d1 : decide (mid < e) = true := decide_eq_true k1
                        have d2 : decide (e < b) = true := decide_eq_true k2
                        go_wp2
                        go_meet
                        exact ⟨by simp [k1, k2], rfl⟩
                      · have d1 : decide (mid < e) = true := decide_eq_true k1
                        have d2 : decide (e < b) = false := decide_eq_false k2
                        go_wp2
                        go_meet
                        exact ⟨by simp [k1, k2], rfl⟩
                    · have d1 : decide (mid < e) = false := decide_eq_false k1
                      go_wp2
                      go_meet
                      exact ⟨by simp [k1], rfl⟩
                  case rest =>
                    obtain ⟨rfl, rfl⟩ := hcut
                    by_cases k : mid < e ∧ e < b
                    · have hc := IH.out.2 g cap N mid e b _ (A ++ mg lt L1 R1) L2 R2 Z w7 (by have := IH.out.1; omega) ⟨rfl, by have := HN.out; simp only [List.length_append, mg_length] at *; omega, by have := HL.out; have := HA.out; rw [List.length_append, mg_length]; omega, HL.out.2.2.2.2.2, HL.out.2.2.2.1, HS.out.2.1, HS.out.2.2.2⟩ hn k.1 k.2 HR3.out
                      have HC := Lib.hid hc
                      have kd : decide (mid < e ∧ e < b) = true := decide_eq_true k
                      rw [kd]
                      clear hc kd
                      go_wp2_with fail
                      refine (HC.out).mono ?_
                      rintro _ w8 ⟨rfl, hg8, hr8⟩
                      have HR8 := Lib.hid hr8
                      clear hr8
                      go_wp2
                      go_end0
                      refine ⟨rfl, gTrans hg3 hg8, ?_⟩
                      rw [HD.out.2.2]
                      simpa using HR8.out
                    · have kd : decide (mid < e ∧ e < b) = false := decide_eq_false k
                      rw [kd]
                      clear kd
                      go_wp2
                      go_end0
                      refine ⟨rfl, hg3, ?_⟩
                      rw [HD.out.2.2]
                      have h9 := HR3.out
                      by_cases k3 : mid < e
                      · have : R2 = [] := List.length_eq_zero_iff.1 (by have := HL.out; omega)
                        simpa [this] using h9
                      · have : L2 = [] := List.length_eq_zero_iff.1 (by have := HL.out; omega)
                        simpa [this] using h9
    · have hE : Ends a m b mid n a m := by have := HM.out; unfold Ends; omega
      have hcb : decide ((m : Int) > (mid : Int)) = false := by simp; omega
      have hcb2 : decide ((mid : Int) < (m : Int)) = false := by simp; omega
      have hcm : m ≤ mid := by omega
      have hcb3 : decide (mid < m) = false := by simp; omega
      clear hc
      have e0 := hE.rng
      have HE := Lib.hid hE
      obtain ⟨q1, q2, q3, q4, q5, q6, q7⟩ := e0
      have HQ := Lib.hid q7
      clear hE q7
      go_enter Tryz.func176, Tryz.ntmps176
      go_wp2
      go_loopw [20, 21] (fun sv rv wr => ∃ s r : Nat, a ≤ s ∧ s ≤ r ∧ r ≤ m ∧ sv = .int .i64 s ∧ rv = .int .i64 r ∧ w.grownBy wr (some g) ∧ RowE g cap D wr ∧ (∀ c, a ≤ c → c < s → ke D c ≤ ke D (n - 1 - c)) ∧ (∀ c, r ≤ c → c < m → ke D (n - 1 - c) < ke D c)) (fun sv rv _ => (intOf rv).toNat - (intOf sv).toNat)
      case atStart => exact ⟨a, m, by omega, by omega, by omega, rfl, rfl, World.grownBy.refl _ _, hr, fun t h3 h4 => (by omega), fun t h3 h4 => (by omega)⟩
      case round =>
        obtain ⟨s, r, hs0, hsr, hr0, rfl, rfl, hg, hrr, hlo, hhi⟩ := hrel
        by_cases hlt : s < r
        · obtain ⟨c, hh⟩ : ∃ h, (s + r) / 2 = h := ⟨_, rfl⟩
          have e1 := HE.out.at_ (c := c) (by omega) (by omega)
          obtain ⟨pc, hpc⟩ : ∃ x, n - 1 - c = x := ⟨_, rfl⟩
          obtain ⟨⟨xa, fa⟩, hxa⟩ : ∃ x, D[pc]? = some x := ⟨_, List.getElem?_eq_getElem (by have := h2.len; omega)⟩
          obtain ⟨⟨xh, fh⟩, hxh⟩ : ∃ x, D[c]? = some x := ⟨_, List.getElem?_eq_getElem (by have := h2.len; omega)⟩
          have wi : IntKind.i64.wrap ((s : Int) + r) = (s : Int) + r := IntWalk.i64_in _ (by omega)
          have hzz : ((s : Int) + r) / 2 = (c : Int) := by omega
          have wj : IntKind.i64.wrap ((n : Int) - 1 - c) = (pc : Int) := by rw [IntWalk.i64_in _ (by omega)]; omega
          have hih : s ≤ c := by omega
          have hhj : c < r := by omega
          have hcN : (c : Int) < (N : Int) := by omega
          have hpN : (pc : Int) < (N : Int) := by omega
          obtain ⟨pa, hpa⟩ : ∃ p, pc * 6 = p := ⟨_, rfl⟩
          obtain ⟨ph, hph⟩ : ∃ p, c * 6 = p := ⟨_, rfl⟩
          have hgw := hrr.lt
          have c1 : ∀ n os, (Sort.grow (wr.drewN n) os).cell? ⟨g, pa, none⟩ = some (.string fa.1.co) := fun n os => cell_grown hgw (hpa ▸ Rw.cell hrr hxa (j := 0) rfl) n os
          have c2 : ∀ n os, (Sort.grow (wr.drewN n) os).cell? ⟨g, pa + 1, none⟩ = some (.int .i64 fa.1.ra) := fun n os => cell_grown hgw (hpa ▸ Rw.cell hrr hxa (j := 1) rfl) n os
          have c3 : ∀ n os, (Sort.grow (wr.drewN n) os).cell? ⟨g, pa + 2, none⟩ = some (.int .i64 fa.1.rt) := fun n os => cell_grown hgw (hpa ▸ Rw.cell hrr hxa (j := 2) rfl) n os
          have c4 : ∀ n os, (Sort.grow (wr.drewN n) os).cell? ⟨g, pa + 3, none⟩ = some (.int .i64 fa.1.fx) := fun n os => cell_grown hgw (hpa ▸ Rw.cell hrr hxa (j := 3) rfl) n os
          have c5 : ∀ n os, (Sort.grow (wr.drewN n) os).cell? ⟨g, pa + 4, none⟩ = some (.int .i64 fa.1.pr) := fun n os => cell_grown hgw (hpa ▸ Rw.cell hrr hxa (j := 4) rfl) n os
          have c6 : ∀ n os, (Sort.grow (wr.drewN n) os).cell? ⟨g, pa + 5, none⟩ = some (.int .i64 fa.1.tt) := fun n os => cell_grown hgw (hpa ▸ Rw.cell hrr hxa (j := 5) rfl) n os
          have c7 : ∀ n os, (Sort.grow (wr.drewN n) os).cell? ⟨g, ph, none⟩ = some (.string fh.1.co) := fun n os => cell_grown hgw (hph ▸ Rw.cell hrr hxh (j := 0) rfl) n os
          have c8 : ∀ n os, (Sort.grow (wr.drewN n) os).cell? ⟨g, ph + 1, none⟩ = some (.int .i64 fh.1.ra) := fun n os => cell_grown hgw (hph ▸ Rw.cell hrr hxh (j := 1) rfl) n os
          have c9 : ∀ n os, (Sort.grow (wr.drewN n) os).cell? ⟨g, ph + 2, none⟩ = some (.int .i64 fh.1.rt) := fun n os => cell_grown hgw (hph ▸ Rw.cell hrr hxh (j := 2) rfl) n os
          have c10 : ∀ n os, (Sort.grow (wr.drewN n) os).cell? ⟨g, ph + 3, none⟩ = some (.int .i64 fh.1.fx) := fun n os => cell_grown hgw (hph ▸ Rw.cell hrr hxh (j := 3) rfl) n os
          have c11 : ∀ n os, (Sort.grow (wr.drewN n) os).cell? ⟨g, ph + 4, none⟩ = some (.int .i64 fh.1.pr) := fun n os => cell_grown hgw (hph ▸ Rw.cell hrr hxh (j := 4) rfl) n os
          have c12 : ∀ n os, (Sort.grow (wr.drewN n) os).cell? ⟨g, ph + 5, none⟩ = some (.int .i64 fh.1.tt) := fun n os => cell_grown hgw (hph ▸ Rw.cell hrr hxh (j := 5) rfl) n os
          have k1 := ke_some hxa
          have k2 := ke_some hxh
          have lo : ¬ xa < xh → ∀ t, a ≤ t → t < c + 1 → ke D t ≤ ke D (n - 1 - t) := fun h3 => h2.lo HE.out (by omega) (by omega) (by rw [hpc, k1, k2]; show xh ≤ xa; omega)
          have hi : xa < xh → ∀ t, c ≤ t → t < m → ke D (n - 1 - t) < ke D t := fun h3 => h2.hi HE.out (by omega) (by omega) (by rw [hpc, k1, k2]; exact h3)
          have KK := Lib.hid (And.intro lo (And.intro hi (And.intro hlo hhi)))
          have HH := Lib.hid hh
          have HR := Lib.hid hrr
          clear lo hi hlo hhi k1 k2 hxa hxh hrr hr hh hpc e1
          go_wp2_with fail
          refine wp_region_quiet_grown (by kernel_rfl) (by kernel_rfl) ?_
          repeat (go_big_quiet_step (refine Calls.grown_of (cmpK' xa xh fa fh _)))
          refine wpQuiet_nil ?_
          intro _ hw'
          obtain ⟨⟨nq, osq⟩, hw''⟩ := hw'
          subst hw''
          have hg3 := gGrow hg nq osq
          have hr4 : RowE g cap _ _ := Rw.grow (HR.out.drewN nq) osq
          have HR4 := Lib.hid hr4
          clear hr4 c1 c2 c3 c4 c5 c6 c7 c8 c9 c10 c11 c12
          obtain ⟨hc1, hc2⟩ := cf_neg xa xh
          generalize cf xa xh = cc at *
          generalize Sort.grow (wr.drewN nq) osq = wq at *
          by_cases hlt2 : xa < xh
          · have hcc := hc1 hlt2
            have hd : decide (cc < 0) = true := decide_eq_true hcc
            clear hc1 hc2
            rw [hd]
            clear hd
            go_wp2
            exact ⟨⟨s, c, by omega, by omega, by omega, rfl, rfl, hg3, HR4.out, KK.out.2.2.1, KK.out.2.1 (by omega)⟩, by simp [intOf]; omega⟩
          · have hcc := hc2 hlt2
            have hd : decide (cc < 0) = false := decide_eq_false (by omega)
            clear hc1 hc2
            rw [hd]
            clear hd
            go_wp2
            exact ⟨⟨c + 1, r, by omega, by omega, by omega, by go_num, rfl, hg3, HR4.out, KK.out.1 (by omega), KK.out.2.2.2⟩, by simp [intOf]; omega⟩
        · have hsr2 : s = r := by omega
          subst hsr2
          obtain ⟨L1, L2, R1, R2, hL, hR, l1, l2, l3, l4, l5, l6, hM⟩ := h2.sym HE.out hs0 hr0 hlo hhi
          obtain ⟨e, he⟩ : ∃ x, n - s = x := ⟨_, rfl⟩
          rw [he] at l3 l4 l6
          have we : IntKind.i64.wrap ((n : Int) - s) = (e : Int) := by rw [IntWalk.i64_in _ (by omega)]; have := HM.out; omega
          have t1 : a ≤ s := by omega
          have t2 : s ≤ m := by omega
          have t3 : m ≤ e := by omega
          have t4 : e ≤ b := by omega
          have t5 : s ≤ mid := by omega
          have t6 : mid ≤ e := by omega
          have hT := h2.eq
          rw [hT, hL, hR] at hrr
          have HN := Lib.hid (show (A ++ (L1 ++ L2) ++ (R1 ++ R2) ++ Z).length = N by rw [← hL, ← hR, ← hT]; exact h2.len)
          have hsl := h2.sl
          have hsr3 := h2.sr
          rw [hL] at hsl
          rw [hR] at hsr3
          have HS := Lib.hid (And.intro (List.pairwise_append.1 hsl).1 (And.intro (List.pairwise_append.1 hsl).2.1 (And.intro (List.pairwise_append.1 hsr3).1 (List.pairwise_append.1 hsr3).2.1)))
          have HA := Lib.hid h2.la
          clear hsl hsr3
          have HR := Lib.hid hrr
          have HL := Lib.hid (And.intro l1 (And.intro l2 (And.intro l3 (And.intro l4 (And.intro l5 l6)))))
          have HD := Lib.hid (And.intro hL (And.intro hR hM))
          clear hrr hr hL hR hM l1 l2 l3 l4 l5 l6 he hT hlo hhi hlt
          go_upto_region 39 with fail
          go_cut [185] from 178 to 185 (fun q wx => q = .bool (decide (s < m ∧ m < e)) ∧ wr = wx)
          case first =>
            by_cases k1 : s < m
            · by_cases k2 : m < e
              · have d1 : decide (s < m) = true := decide_eq_true k1
                have d2 : decide (m < e) = true := decide_eq_true k2
                go_wp2
                go_meet
                exact ⟨by simp [k1, k2], rfl⟩
              · have d1 : decide (s < m) = true := decide_eq_true k1
                have d2 : decide (m < e) = false := decide_eq_false k2
                go_wp2
                go_meet
                exact ⟨by simp [k1, k2], rfl⟩
            · have d1 : decide (s < m) = false := decide_eq_false k1
              go_wp2
              go_meet
              exact ⟨by simp [k1], rfl⟩
          case rest =>
            obtain ⟨rfl, rfl⟩ := hcut
            go_upto_if 185 with fail
            go_cut [185] from 186 to 191 (fun _ wx => w.grownBy wx (some g) ∧ RowE g cap (A ++ L1 ++ R1 ++ (L2 ++ R2 ++ Z)) wx)
            case first =>
              by_cases k : s < m ∧ m < e
              · have hc := rotate g cap N s m e (A ++ L1) L2 R1 (R2 ++ Z) (.func (.func 107) #[] #[]) wr (by have := HN.out; have := HL.out; simp only [List.length_append] at *; omega) hn (by have := HL.out; have := HA.out; rw [List.length_append]; omega) HL.out.2.1 HL.out.2.2.1 (by have := HL.out; omega) (by have := HL.out; omega) (by simpa using HR.out)
                have HC := Lib.hid hc
                have kd : decide (s < m ∧ m < e) = true := decide_eq_true k
                rw [kd]
                clear hc kd
                go_wp2_with fail
                refine (HC.out).mono ?_
                rintro _ w8 ⟨rfl, hg8, hr8⟩
                have HR8 := Lib.hid hr8
                clear hr8
                go_wp2
                go_meet
                exact ⟨gTrans hg hg8, by simpa using HR8.out⟩
              · have kd : decide (s < m ∧ m < e) = false := decide_eq_false k
                rw [kd]
                clear kd
                go_wp2
                go_meet
                refine ⟨hg, ?_⟩
                have h9 := HR.out
                by_cases k3 : s < m
                · have : R1 = [] := List.length_eq_zero_iff.1 (by have := HL.out; omega)
                  simpa [this] using h9
                · have : L2 = [] := List.length_eq_zero_iff.1 (by have := HL.out; omega)
                  simpa [this] using h9
            case rest =>
              obtain ⟨hg2, hr2⟩ := hcut
              have HR2 := Lib.hid hr2
              clear hr2
              obtain ⟨w9, rfl⟩ : ∃ w9 : World, w9 = wc := ⟨_, rfl⟩
              go_upto_region 41 with fail
              go_cut [199] from 192 to 199 (fun q wx => q = .bool (decide (a < s ∧ s < mid)) ∧ w9 = wx)
              case first =>
                by_cases k1 : a < s
                · by_cases k2 : s < mid
                  · have d1 : decide (a < s) = true := decide_eq_true k1
                    have d2 : decide (s < mid) = true := decide_eq_true k2
                    go_wp2
                    go_meet
                    exact ⟨by simp [k1, k2], rfl⟩
                  · have d1 : decide (a < s) = true := decide_eq_true k1
                    have d2 : decide (s < mid) = false := decide_eq_false k2
                    go_wp2
                    go_meet
                    exact ⟨by simp [k1, k2], rfl⟩
                · have d1 : decide (a < s) = false := decide_eq_false k1
                  go_wp2
                  go_meet
                  exact ⟨by simp [k1], rfl⟩
              case rest =>
                obtain ⟨rfl, rfl⟩ := hcut
                go_upto_if 199 with fail
                go_cut [199] from 200 to 205 (fun _ wx => w.grownBy wx (some g) ∧ RowE g cap ((A ++ mg lt L1 R1) ++ L2 ++ R2 ++ Z) wx)
                case first =>
                  by_cases k : a < s ∧ s < mid
                  · have hc := IH.out.2 g cap N a s mid _ A L1 R1 (L2 ++ R2 ++ Z) w9 (by have := IH.out.1; omega) ⟨rfl, by have := HN.out; simp only [List.length_append] at *; omega, HA.out, HL.out.1, HL.out.2.2.2.2.1, HS.out.1, HS.out.2.2.1⟩ hn k.1 k.2 HR2.out
                    have HC := Lib.hid hc
                    have kd : decide (a < s ∧ s < mid) = true := decide_eq_true k
                    rw [kd]
                    clear hc kd
                    go_wp2_with fail
                    refine (HC.out).mono ?_
                    rintro _ w8 ⟨rfl, hg8, hr8⟩
                    have HR8 := Lib.hid hr8
                    clear hr8
                    go_wp2
                    go_meet
                    exact ⟨gTrans hg2 hg8, by simpa using HR8.out⟩
                  · have kd : decide (a < s ∧ s < mid) = false := decide_eq_false k
                    rw [kd]
                    clear kd
                    go_wp2
                    go_meet
                    refine ⟨hg2, ?_⟩
                    have h9 := HR2.out
                    by_cases k3 : a < s
                    · have : R1 = [] := List.length_eq_zero_iff.1 (by have := HL.out; omega)
                      simpa [this] using h9
                    · have : L1 = [] := List.length_eq_zero_iff.1 (by have := HL.out; omega)
                      simpa [this] using h9
                case rest =>
                  obtain ⟨hg3, hr3⟩ := hcut
                  have HR3 := Lib.hid hr3
                  clear hr3
                  obtain ⟨w7, rfl⟩ : ∃ w7 : World, w7 = wc := ⟨_, rfl⟩
                  go_upto_region 43 with fail
                  go_cut [213] from 206 to 213 (fun q wx => q = .bool (decide (mid < e ∧ e < b)) ∧ w7 = wx)
                  case first =>
                    by_cases k1 : mid < e
                    · by_cases k2 : e < b
                      · have d1 : decide (mid < e) = true := decide_eq_true k1
                        have d2 : decide (e < b) = true := decide_eq_true k2
                        go_wp2
                        go_meet
                        exact ⟨by simp [k1, k2], rfl⟩
                      · have d1 : decide (mid < e) = true := decide_eq_true k1
                        have d2 : decide (e < b) = false := decide_eq_false k2
                        go_wp2
                        go_meet
                        exact ⟨by simp [k1, k2], rfl⟩
                    · have d1 : decide (mid < e) = false := decide_eq_false k1
                      go_wp2
                      go_meet
                      exact ⟨by simp [k1], rfl⟩
                  case rest =>
                    obtain ⟨rfl, rfl⟩ := hcut
                    by_cases k : mid < e ∧ e < b
                    · have hc := IH.out.2 g cap N mid e b _ (A ++ mg lt L1 R1) L2 R2 Z w7 (by have := IH.out.1; omega) ⟨rfl, by have := HN.out; simp only [List.length_append, mg_length] at *; omega, by have := HL.out; have := HA.out; rw [List.length_append, mg_length]; omega, HL.out.2.2.2.2.2, HL.out.2.2.2.1, HS.out.2.1, HS.out.2.2.2⟩ hn k.1 k.2 HR3.out
                      have HC := Lib.hid hc
                      have kd : decide (mid < e ∧ e < b) = true := decide_eq_true k
                      rw [kd]
                      clear hc kd
                      go_wp2_with fail
                      refine (HC.out).mono ?_
                      rintro _ w8 ⟨rfl, hg8, hr8⟩
                      have HR8 := Lib.hid hr8
                      clear hr8
                      go_wp2
                      go_end0
                      refine ⟨rfl, gTrans hg3 hg8, ?_⟩
                      rw [HD.out.2.2]
                      simpa using HR8.out
                    · have kd : decide (mid < e ∧ e < b) = false := decide_eq_false k
                      rw [kd]
                      clear kd
                      go_wp2
                      go_end0
                      refine ⟨rfl, hg3, ?_⟩
                      rw [HD.out.2.2]
                      have h9 := HR3.out
                      by_cases k3 : mid < e
                      · have : R2 = [] := List.length_eq_zero_iff.1 (by have := HL.out; omega)
                        simpa [this] using h9
                      · have : L2 = [] := List.length_eq_zero_iff.1 (by have := HL.out; omega)
                        simpa [this] using h9

/-- Two sorted ranges that touch are merged. -/
theorem symMerge : ∀ f : Nat, SymOk f
  | 0 => fun g cap N a m b D A L R Z w h1 _ _ h2 h3 _ => absurd h1 (by omega)
  | f + 1 => fun g cap N a m b D A L R Z w hf h2 hn ham hmb hr => by
    by_cases hm1 : m = a + 1
    · exact symMerge_one g cap N a m b D A L R Z w h2 hn hm1 hmb hr
    by_cases hb1 : b = m + 1
    · exact symMerge_last g cap N a m b D A L R Z w h2 hn hb1 (by omega) hr
    exact symMerge_step f (symMerge f) g cap N a m b D A L R Z w hf h2 hn (by omega) (by omega) hr
end Go.Proofs.YtgepbkldgnjpfaaGreatDoor.Ao

namespace Go.Proofs.YtgepbkldgnjpfaaGreatDoor.Ao
open Go.RowKit Go.Sort Go.BigFrame

section
variable {O : List Eo} {s t a : Nat}
theorem blks_up (hs : 0 < s) (ha : a = t * s) (h : a + s ≤ O.length) : blks lt s (O.take (a + s)) = blks lt s (O.take a) ++ ss lt ((O.drop a).take s) := by
  rw [List.take_add, blks_append hs t _ _ (by rw [List.length_take]; omega), blks_le (l := (O.drop a).take s) hs (by rw [List.length_take]; omega)]
theorem blks_cut (hs : 0 < s) (ha : a = t * s) (h : a ≤ O.length) : blks lt s O = blks lt s (O.take a) ++ blks lt s (O.drop a) := by
  conv => lhs; rw [← List.take_append_drop a O]
  exact blks_append hs t _ _ (by rw [List.length_take]; omega)
theorem blks_next (hs : 0 < s) (h : a + s ≤ O.length) : blks lt s (O.drop a) = ss lt ((O.drop a).take s) ++ blks lt s (O.drop (a + s)) := by
  conv => lhs; rw [← List.take_append_drop s (O.drop a)]
  rw [blks_cons hs (by rw [List.length_take, List.length_drop]; omega), List.drop_drop]
end

section
variable {O : List Eo} {s t a N : Nat}
theorem blks_two (hs : 0 < s) {l : List Eo} (h : 2 * s ≤ l.length) : blks lt s l = ss lt (l.take s) ++ ss lt ((l.drop s).take s) ++ blks lt s (l.drop (2 * s)) := by
  have h1 := blks_next (O := l) (a := 0) hs (by omega)
  have h2 := blks_next (O := l) (a := s) hs (by omega)
  simp only [List.drop_zero, Nat.zero_add] at h1
  rw [h1, h2, List.append_assoc, show s + s = 2 * s by omega]
theorem pair_up (hs : 0 < s) (ha : a = t * (2 * s)) (hN : O.length = N) (h : a + 2 * s ≤ N) :
    Two (blks lt (2 * s) (O.take a) ++ blks lt s (O.drop a)) (blks lt (2 * s) (O.take a)) (ss lt ((O.drop a).take s)) (ss lt ((O.drop (a + s)).take s)) (blks lt s (O.drop (a + 2 * s))) a (a + s) (a + 2 * s) N ∧
    blks lt (2 * s) (O.take a) ++ mg lt (ss lt ((O.drop a).take s)) (ss lt ((O.drop (a + s)).take s)) ++ blks lt s (O.drop (a + 2 * s)) = blks lt (2 * s) (O.take (a + 2 * s)) ++ blks lt s (O.drop (a + 2 * s)) := by
  subst hN
  have e := blks_two hs (l := O.drop a) (by rw [List.length_drop]; omega)
  rw [List.drop_drop, List.drop_drop] at e
  refine ⟨⟨by rw [e]; simp [List.append_assoc], ?_, ?_, ?_, ?_, srt_ss lt_swk _, srt_ss lt_swk _⟩, ?_⟩
  · simp only [List.length_append, blks_length, List.length_take, List.length_drop]; omega
  · rw [blks_length, List.length_take]; omega
  · rw [ss_length, List.length_take, List.length_drop]; omega
  · rw [ss_length, List.length_take, List.length_drop]; omega
  · rw [blks_up (s := 2 * s) (by omega) ha h, mg_ss lt_swk, show (2 * s) = s + s by omega, List.take_add, List.drop_drop]
theorem pair_last (hs : 0 < s) (ha : a = t * (2 * s)) (hN : O.length = N) (h : a + s < N) (h2 : N < a + 2 * s) :
    Two (blks lt (2 * s) (O.take a) ++ blks lt s (O.drop a)) (blks lt (2 * s) (O.take a)) (ss lt ((O.drop a).take s)) (ss lt (O.drop (a + s))) [] a (a + s) N N ∧
    blks lt (2 * s) (O.take a) ++ mg lt (ss lt ((O.drop a).take s)) (ss lt (O.drop (a + s))) ++ [] = blks lt (2 * s) O := by
  subst hN
  have e := blks_next (O := O) (a := a) hs (by omega)
  rw [blks_le (l := O.drop (a + s)) hs (by rw [List.length_drop]; omega)] at e
  refine ⟨⟨by rw [e]; simp [List.append_assoc], ?_, ?_, ?_, ?_, srt_ss lt_swk _, srt_ss lt_swk _⟩, ?_⟩
  · simp only [List.length_append, blks_length, List.length_take, List.length_drop]; omega
  · rw [blks_length, List.length_take]; omega
  · rw [ss_length, List.length_take, List.length_drop]; omega
  · rw [ss_length, List.length_drop]; omega
  · conv => rhs; rw [blks_cut (O := O) (s := 2 * s) (a := a) (by omega) ha (by omega)]
    rw [mg_ss lt_swk, ← List.drop_drop, List.take_append_drop, List.append_nil, blks_le (s := 2 * s) (l := O.drop a) (by omega) (by rw [List.length_drop]; omega)]
theorem pair_none (hs : 0 < s) (ha : a = t * (2 * s)) (hN : O.length = N) (h0 : a ≤ N) (h : N ≤ a + s) : blks lt (2 * s) (O.take a) ++ blks lt s (O.drop a) = blks lt (2 * s) O := by
  subst hN
  conv => rhs; rw [blks_cut (O := O) (s := 2 * s) (a := a) (by omega) ha h0]
  rw [blks_le (s := s) (l := O.drop a) hs (by rw [List.length_drop]; omega), blks_le (s := 2 * s) (l := O.drop a) (by omega) (by rw [List.length_drop]; omega)]
end

set_option maxHeartbeats 1000000 in
set_option maxRecDepth 100000 in
theorem stableCmp (g cap N : Nat) (O : List Eo) (w : World) (hN : O.length = N) (hn : N ≤ 1000000) (hr : RowE g cap O w) :
    Calls Tryz.prog 144 #[.slice (some ⟨g, 0, none⟩) N cap, .int .i64 N, .func (.func 107) #[] #[]] w fun e w' =>
      e = .returned (.tuple #[]) ∧ w.grownBy w' (some g) ∧ RowE g cap (ss lt O) w' := by
  have HN := Lib.hid hN
  clear hN
  go_enter Tryz.func144, Tryz.ntmps144
  go_wp2
  go_loopw [7, 8] (fun av bv wr => ∃ a t : Nat, a ≤ N ∧ av = .int .i64 a ∧ bv = .int .i64 (a + 20 : Nat) ∧ w.grownBy wr (some g) ∧ Hid (a = t * 20 ∧ RowE g cap (blks lt 20 (O.take a) ++ O.drop a) wr)) (fun av _ _ => N - (intOf av).toNat)
  case atStart => exact ⟨0, 0, by omega, rfl, rfl, World.grownBy.refl _ _, Lib.hid ⟨by omega, by simpa [blks_nil] using hr⟩⟩
  case round =>
    obtain ⟨a, t, ha, rfl, rfl, hg, HR⟩ := hrel
    have hN0 := HN.out
    have l1 : (blks lt 20 (O.take a)).length = a := by rw [blks_length, List.length_take]; omega
    by_cases hlt : a + 20 ≤ N
    · have hsp : blks lt 20 (O.take a) ++ O.drop a = blks lt 20 (O.take a) ++ (O.drop a).take 20 ++ O.drop (a + 20) := by
        rw [List.append_assoc, ← List.drop_drop, List.take_append_drop]
      have hc := insSort g cap N a (a + 20) (blks lt 20 (O.take a)) ((O.drop a).take 20) (O.drop (a + 20)) wr
        (by rw [← hsp, List.length_append, l1, List.length_drop]; omega) hn l1 (by rw [List.length_take, List.length_drop]; omega) (by rw [← hsp]; exact HR.out.2)
      rw [← blks_up (by omega) HR.out.1 (by omega)] at hc
      have HC := Lib.hid hc
      clear hc hsp l1 hN0
      have w1 : IntKind.i64.wrap ((a : Int) + 20 + 20) = (a : Int) + 20 + 20 := IntWalk.i64_in _ (by omega)
      have hltz : (a : Int) + 20 ≤ (N : Int) := by omega
      go_wp2_with fail
      refine (HC.out).mono ?_
      rintro e w1 ⟨rfl, hg1, hr1⟩
      have HR1 := Lib.hid hr1
      clear hr1
      go_wp2
      exact ⟨⟨a + 20, t + 1, by omega, by go_num, by go_num, gTrans hg hg1, Lib.hid ⟨by have := HR.out.1; omega, HR1.out⟩⟩, by simp [intOf]; omega⟩
    · have hsp : blks lt 20 (O.take a) ++ O.drop a = blks lt 20 (O.take a) ++ O.drop a ++ [] := by simp
      have hc := insSort g cap N a N (blks lt 20 (O.take a)) (O.drop a) [] wr
        (by rw [← hsp, List.length_append, l1, List.length_drop]; omega) hn l1 (by rw [List.length_drop]; omega) (by rw [← hsp]; exact HR.out.2)
      rw [← blks_le (s := 20) (by omega) (by rw [List.length_drop]; omega), ← blks_cut (by omega) HR.out.1 (by omega), List.append_nil] at hc
      have HC := Lib.hid hc
      clear hc hsp l1 hN0
      have hltz : ¬ (a : Int) + 20 ≤ (N : Int) := by omega
      go_wp2_with fail
      refine (HC.out).mono ?_
      rintro e w1 ⟨rfl, hg1, hr1⟩
      have hg2 := gTrans hg hg1
      have HR1 := Lib.hid hr1
      clear hr1
      obtain ⟨wo, rfl⟩ : ∃ wo : World, wo = w1 := ⟨_, rfl⟩
      go_wp2
      go_loopw [6, 7, 8, 9] (fun sv av bv mv wr => ∃ s : Nat, 20 ≤ s ∧ s ≤ 2 * N + 20 ∧ sv = .int .i64 s ∧ w.grownBy wr (some g) ∧ Hid (RowE g cap (blks lt s O) wr)) (fun sv _ _ _ _ => N - (intOf sv).toNat)
      case atStart => exact ⟨20, by omega, by omega, by go_num, hg2, HR1⟩
      case round =>
        obtain ⟨s, hs1, hs2, rfl, hgo, HRo⟩ := hrel
        by_cases hsn : s < N
        · have w0 : IntKind.i64.wrap (2 * (s : Int)) = 2 * (s : Int) := IntWalk.i64_in _ (by omega)
          obtain ⟨wo, rfl⟩ : ∃ wx : World, wx = wr := ⟨_, rfl⟩
          go_wp2
          go_loopw [7, 8] (fun av bv wr => ∃ a t : Nat, a ≤ N ∧ av = .int .i64 a ∧ bv = .int .i64 (a + 2 * s : Nat) ∧ w.grownBy wr (some g) ∧ Hid (a = t * (2 * s) ∧ RowE g cap (blks lt (2 * s) (O.take a) ++ blks lt s (O.drop a)) wr)) (fun av _ _ => N - (intOf av).toNat)
          case atStart => exact ⟨0, 0, by omega, rfl, by go_num, hgo, Lib.hid ⟨by omega, by simpa [blks_nil] using HRo.out⟩⟩
          case round =>
            obtain ⟨a, t, haN, rfl, rfl, hg3, HR3⟩ := hrel
            have hs0 : 0 < s := by omega
            by_cases hlt : a + 2 * s ≤ N
            · obtain ⟨h2, he⟩ := pair_up (O := O) (N := N) hs0 HR3.out.1 HN.out hlt
              have hc := symMerge (2 * s) g cap N a (a + s) (a + 2 * s) _ _ _ _ _ wr (by omega) h2 hn (by omega) (by omega) HR3.out.2
              rw [he] at hc
              have HC := Lib.hid hc
              clear hc h2 he
              have w1 : IntKind.i64.wrap ((a : Int) + s) = (a : Int) + s := IntWalk.i64_in _ (by omega)
              have w2 : IntKind.i64.wrap ((a : Int) + 2 * s + 2 * s) = (a : Int) + 2 * s + 2 * s := IntWalk.i64_in _ (by omega)
              have hltz : (a : Int) + 2 * s ≤ (N : Int) := by omega
              go_wp2_with fail
              refine (HC.out).mono ?_
              rintro e w1 ⟨rfl, hg4, hr4⟩
              have HR4 := Lib.hid hr4
              clear hr4
              go_wp2
              exact ⟨⟨a + 2 * s, t + 1, by omega, by go_num, by go_num, gTrans hg3 hg4, Lib.hid ⟨by rw [HR3.out.1, Nat.add_mul, Nat.one_mul], HR4.out⟩⟩, by simp [intOf]; omega⟩
            · have hltz : ¬ (a : Int) + 2 * s ≤ (N : Int) := by omega
              by_cases hm : a + s < N
              · obtain ⟨h2, he⟩ := pair_last (O := O) (N := N) hs0 HR3.out.1 HN.out hm (by omega)
                have hc := symMerge (2 * s) g cap N a (a + s) N _ _ _ _ _ wr (by omega) h2 hn (by omega) (by omega) HR3.out.2
                rw [he] at hc
                have HC := Lib.hid hc
                clear hc h2 he
                have w1 : IntKind.i64.wrap ((a : Int) + s) = (a : Int) + s := IntWalk.i64_in _ (by omega)
                have w2 : IntKind.i64.wrap ((s : Int) * 2) = (s : Int) * 2 := IntWalk.i64_in _ (by omega)
                go_wp2_with fail
                refine (HC.out).mono ?_
                rintro e w1 ⟨rfl, hg4, hr4⟩
                have HR4 := Lib.hid hr4
                clear hr4
                go_wp2
                exact ⟨⟨2 * s, by omega, by omega, by go_num, gTrans hg3 hg4, HR4⟩, by simp [intOf]; omega⟩
              · have he := pair_none (O := O) (N := N) hs0 HR3.out.1 HN.out haN (by omega)
                have hr4 := HR3.out.2
                rw [he] at hr4
                have HR4 := Lib.hid hr4
                clear hr4 he
                have w1 : IntKind.i64.wrap ((a : Int) + s) = (a : Int) + s := IntWalk.i64_in _ (by omega)
                have w2 : IntKind.i64.wrap ((s : Int) * 2) = (s : Int) * 2 := IntWalk.i64_in _ (by omega)
                go_wp2
                exact ⟨⟨2 * s, by omega, by omega, by go_num, hg3, HR4⟩, by simp [intOf]; omega⟩
        · have hz := HRo.out
          rw [blks_le (by omega) (by have := HN.out; omega)] at hz
          have HZ := Lib.hid hz
          clear hz
          go_wp2
          go_end0
          exact ⟨rfl, hgo, HZ.out⟩

/-- slices.SortStableFunc by the days: the row holds the stable sort of what it held. -/
theorem sortStable (g cap : Nat) (O : List Eo) (w : World) (hn : O.length ≤ 1000000) (hr : RowE g cap O w) :
    Calls Tryz.prog 106 #[.slice (some ⟨g, 0, none⟩) O.length cap, .func (.func 107) #[] #[]] w fun e w' =>
      e = .returned (.tuple #[]) ∧ w.grownBy w' (some g) ∧ RowE g cap (ss lt O) w' := by
  have HC := Lib.hid (stableCmp g cap O.length O w rfl hn hr)
  go_enter Tryz.func106, Tryz.ntmps106
  go_wp2_with fail
  refine (HC.out).mono ?_
  rintro e w1 ⟨rfl, hg, hr⟩
  go_wp2
  go_end0
  exact ⟨rfl, hg, hr⟩

theorem insNil (f : Value) (w : World) : Calls Tryz.prog 175 #[.slice none 0 0, .int .i64 0, .int .i64 0, f] w fun e w' => e = .returned (.tuple #[]) ∧ w = w' := by
  go_enter Tryz.func175, Tryz.ntmps175
  go_wp2
  refine wp_loop_rounds 1 ?_
  rw [rounds_succ]
  go_wp2
  go_end0
  exact ⟨rfl, rfl⟩
theorem stableNil (f : Value) (w : World) : Calls Tryz.prog 144 #[.slice none 0 0, .int .i64 0, f] w fun e w' => e = .returned (.tuple #[]) ∧ w = w' := by
  go_enter Tryz.func144, Tryz.ntmps144
  go_wp2
  refine wp_loop_rounds 1 ?_
  rw [rounds_succ]
  go_wp2_with fail
  refine (insNil f _).mono ?_
  rintro e w1 ⟨rfl, rfl⟩
  go_wp2
  refine wp_loop_rounds 1 ?_
  rw [rounds_succ]
  go_wp2
  go_end0
  exact ⟨rfl, rfl⟩
/-- A nil slice stays. -/
theorem sortNil (f : Value) (w : World) : Calls Tryz.prog 106 #[.slice none 0 0, f] w fun e w' => e = .returned (.tuple #[]) ∧ w = w' := by
  go_enter Tryz.func106, Tryz.ntmps106
  go_wp2_with fail
  refine (stableNil f _).mono ?_
  rintro e w1 ⟨rfl, rfl⟩
  go_wp2
  go_end0
  exact ⟨rfl, rfl⟩
end Go.Proofs.YtgepbkldgnjpfaaGreatDoor.Ao
