/- The statement TaxEven: its walk. -/
import Derived.Test.YtkpfjabeppdjlaaTaxR
import Derived.Test.YtkpfjabeppdjlaaTaxA
import Derived.Test.YtkpfjabeppdjlaaBlk
namespace Go.Proofs.Ytkpfjabeppdjlaa
open Go.RowKit

theorem fits_mk {c : Int} (h0 : -1125899906842624 ≤ c) (h1 : c ≤ 1125899906842624) : fitsB c = true := by unfold fitsB; simp; omega
theorem even_bd {base n al ex : Int} {t : List (Int × Int)} (h : RightP t al ex) (hb0 : 0 ≤ base) (hb1 : base ≤ 1099511627776) (i : Int) (hi : 0 ≤ i) (hin : i ≤ n) (hn1 : 1 ≤ n) (hn : n ≤ 60) :
    0 ≤ taxAt base n al t i ∧ taxAt base n al t i ≤ i * base ∧ 0 ≤ i * base ∧ i * base ≤ 65970697666560 := by
  have e0 := Int.mul_nonneg hi hb0
  have e1 : i * base ≤ 60 * 1099511627776 := Int.mul_le_mul (by omega) hb1 hb0 (by omega)
  by_cases h0 : i = 0
  · subst h0
    rw [taxAt_zero _ _ _ _ hn1]; omega
  · have := (toDate_even h hb0 hb1 i (by omega) hin hn).2
    omega
theorem single_even {base n al ex : Int} {t : List (Int × Int)} (h : RightP t al ex) (hb0 : 0 ≤ base) (hb1 : base ≤ 1099511627776) (hn1 : 1 ≤ n) (hn : n ≤ 60) :
    singleV base n al ex t = (taxAt base n al t 1 + ex, 0) := by
  have h1 := toDate_even h hb0 hb1 1 (by omega) hn1 hn
  rw [Int.one_mul] at h1
  have := h.ex0
  have := h.ex1
  unfold singleV
  rw [h1.1, if_neg (by simp), if_neg (by rw [fits_mk (by omega) (by omega)]; simp)]
theorem step_even {base n al ex : Int} {t : List (Int × Int)} (h : RightP t al ex) (hb0 : 0 ≤ base) (hb1 : base ≤ 1099511627776) (i : Int) (hi : 0 ≤ i) (hin : i < n) (hn : n ≤ 60) :
    stepV (i * base) (taxAt base n al t i) base (i + 1) n al ex t = (((i + 1) * base, taxAt base n al t (i + 1)), (taxAt base n al t (i + 1) - taxAt base n al t i + ex, 0)) := by
  obtain ⟨a1, a2, a3, a4⟩ := even_bd h hb0 hb1 i hi (by omega) (by omega) hn
  obtain ⟨c1, c2, c3, c4⟩ := even_bd h hb0 hb1 (i + 1) (by omega) (by omega) (by omega) hn
  have hs : i * base + base = (i + 1) * base := by rw [Int.add_mul, Int.one_mul]
  have h1 := (toDate_even h hb0 hb1 (i + 1) (by omega) (by omega) hn).1
  have := h.ex0
  have := h.ex1
  unfold stepV
  rw [hs, h1]
  rw [if_neg (by rw [fits_mk (by omega) (by omega), fits_mk (by omega) (by omega), fits_mk (by omega) (by omega)]; simp), if_neg (by rw [fits_mk (by omega) (by omega)]; simp), if_neg (by simp), if_neg (by dsimp only; rw [fits_mk (by omega) (by omega)]; simp)]

set_option maxRecDepth 100000 in
set_option maxHeartbeats 2000000 in
theorem even_walk (base of al ex : Int) (A : Option Addr) (cap : Nat) (t : List (Int × Int)) (w : World) (hof : 0 ≤ of ∧ of ≤ 255) (hcap : t.length ≤ 9223372036854775807) (hs : Sl encBand 2 w w.heap.size A t) :
    Calls Try.prog 6 #[.int .i64 base, .int .u8 of, cardV al ex A t.length cap] w fun e w' => e = .returned (.bool true) ∧ Below w.heap.size w w' := by
  have bel0 : Below w.heap.size w (w.alloc (.cells #[.int .i64 al, .int .i64 ex, .slice A t.length cap] 28)) := (Below.refl _ w).alloc (Nat.le_refl _) _
  have SN : ∀ w1, Below w.heap.size w w1 → Sl encBand 2 w1 w1.heap.size A t := fun w1 h => (hs.below h).more h.size
  have SNH := Lib.hid SN
  have HS := Lib.hid hs
  clear SN hs
  have n0 := Int.emod_nonneg of (show (60 : Int) ≠ 0 by omega)
  have n1 := Int.emod_lt_of_pos of (show (0 : Int) < 60 by omega)
  by_cases hR : RightP t al ex
  · have HR := Lib.hid hR
    have x0 := hR.ex0
    have x1 := hR.ex1
    clear hR
    by_cases c1 : 0 ≤ base ∧ base ≤ 1099511627776
    · obtain ⟨c1, c2⟩ := c1
      have CS := Lib.hid (fun W h => tax_Single base (of % 60 + 1) al ex A cap t W hcap (SNH.out W h))
      rw [single_even HR.out c1 c2 (by omega) (by omega)] at CS
      have CT := Lib.hid (fun (i : Int) W (h0 : 0 ≤ i) (h1 : i < of % 60 + 1) (h : Below w.heap.size w W) => (step_even HR.out c1 c2 i h0 h1 (by omega)) ▸ tax_Step (i * base) (taxAt base (of % 60 + 1) al t i) base (i + 1) (of % 60 + 1) al ex A cap t W hcap (SNH.out W h))
      go_enter Try.func6, Try.ntmps6
      go_wp2_with fail
      refine (law24_right al ex A cap t _ hcap (SNH.out _ bel0)).mono ?_
      rintro e w1 ⟨b, rfl, hb, hb1⟩
      obtain rfl : b = true := hb.2 HR.out
      clear hb
      have y1 : Blk w1 w.heap.size 28 #[.int .i64 al, .int .i64 ex, .slice A t.length cap] := (Blk.new w _ _).keep hb1
      have b1 : Below w.heap.size w w1 := bel0.trans (hb1.mono bel0.size)
      have r0 := y1.cell 0
      have r1 := y1.cell 1
      have r2 := y1.cell 2
      simp at r0 r1 r2
      have Y1 := Lib.hid y1
      clear y1
      go_wp2_with fail
      refine (CS.out _ b1).mono ?_
      rintro e w2 ⟨rfl, hb2⟩
      have b2 : Below w.heap.size w w2 := b1.trans (hb2.mono b1.size)
      have Y2 := Lib.hid (Y1.out.keep hb2)
      have st0 := taxAt_step base (of % 60 + 1) al t 0 (by omega)
      rw [taxAt_zero _ _ _ _ (by omega)] at st0
      simp only [Int.zero_add, Int.sub_zero] at st0
      have HST := Lib.hid (fun i => taxAt_step base (of % 60 + 1) al t i (by omega))
      have HZ := Lib.hid (taxAt_zero base (of % 60 + 1) al t (by omega))
      have HBD := Lib.hid (fun i h0 h1 => even_bd HR.out c1 c2 i h0 h1 (show 1 ≤ of % 60 + 1 by omega) (by omega))
      clear r0 r1 r2
      generalize tot (max 0 (base * (of % 60 + 1) - al)) 1 t t.length / ((of % 60 + 1) * 1000000) = q at *
      go_wp2_with fail
      go_loopw [11, 12, 45] (fun l m i wr => ∃ (k : Nat) (L M : Int), (k : Int) ≤ of % 60 + 1 ∧ l = .int .i64 L ∧ m = .int .i64 M ∧ i = .int .i64 k ∧ q + ex ≤ L ∧ L ≤ M ∧ M ≤ q + 1 + ex ∧ -1125899906842624 ≤ L ∧ M ≤ 1125899906842624 ∧
        Below w.heap.size w wr ∧ Blk wr w.heap.size 28 #[.int .i64 al, .int .i64 ex, .slice A t.length cap] ∧ Blk wr w2.heap.size 30 #[.int .i64 (k * base), .int .i64 (taxAt base (of % 60 + 1) al t k)]) (fun _ _ i _ => (of % 60 + 1 - intOf i).toNat)
      case atStart =>
        have hb := HBD.out 1 (by omega) (by omega)
        exact ⟨0, _, _, by omega, rfl, rfl, rfl, by omega, by omega, by omega, by omega, by omega, b2.alloc b2.size _, Y2.out.alloc _, by simpa [HZ.out] using Blk.new w2 30 #[.int .i64 0, .int .i64 0]⟩
      case round =>
        obtain ⟨k, L, M, hk, rfl, rfl, rfl, h1, h2, h3, h4, h5, hB, hY, hS⟩ := hrel
        by_cases hlt : (k : Int) < of % 60 + 1
        · have s0 := hS.cell 0
          have s1 := hS.cell 1
          have r0 := hY.cell 0
          have r1 := hY.cell 1
          have r2 := hY.cell 2
          simp at s0 s1 r0 r1 r2
          have hst := HST.out k
          have bd0 := HBD.out k (by omega) (by omega)
          have bd1 := HBD.out (k + 1) (by omega) (by omega)
          have HS2 := Lib.hid hS
          have HY2 := Lib.hid hY
          clear hS hY
          by_cases hk0 : k = 0
          · have t1 : ((k : Int) == 0) = true := by simp [hk0]
            have t2 : (taxAt base (of % 60 + 1) al t ((k : Int) + 1) - taxAt base (of % 60 + 1) al t (k : Int) + ex != taxAt base (of % 60 + 1) al t 1 + ex) = false := by subst hk0; simp [HZ.out]
            clear hk0
            go_wp2_with fail
            have cc := CT.out k wr (by omega) hlt hB
            refine cc.mono ?_
            rintro e w4 ⟨rfl, hb4⟩
            clear cc
            have hz4 : w2.heap.size < w4.heap.size := Nat.lt_of_lt_of_le HS2.out.lt hb4.size
            have B4 := Lib.hid (hB.trans (hb4.mono hB.size))
            have Y4 := Lib.hid (HY2.out.keep hb4)
            have S4 := HS2.out.keep hb4
            have p0 := S4.cell 0
            have p1 := S4.cell 1
            have q0 := S4.frozen 0
            have q1 := S4.frozen 1
            simp at p0 p1
            have HS4 := Lib.hid S4
            clear S4
            go_wp2_with fail
            all_goals
              refine ⟨⟨k + 1, _, _, by omega, rfl, rfl, by go_num, by omega, by omega, by omega, by omega, by omega, ((B4.out.setCell (p := ⟨w2.heap.size, 0, none⟩) b2.size _).setCell (p := ⟨w2.heap.size, 1, none⟩) b2.size _).alloc (Nat.le_trans B4.out.size (by simp [World.setCell])) _, ?_, ?_⟩, by simp [intOf]; omega⟩
              · exact ((Y4.out.far (p := ⟨w2.heap.size, 0, none⟩) (by have := Y2.out.lt; dsimp; omega) _).far (p := ⟨w2.heap.size, 1, none⟩) (by have := Y2.out.lt; dsimp; omega) _).alloc _
              · have := (((HS4.out.set_ 0 (.int .i64 (((k : Int) + 1) * base))).set_ 1 (.int .i64 (taxAt base (of % 60 + 1) al t ((k : Int) + 1)))).alloc (.cells #[.int .i64 (((k : Int) + 1) * base), .int .i64 (taxAt base (of % 60 + 1) al t ((k : Int) + 1))] 30))
                simpa using this
          · have t1 : ((k : Int) == 0) = false := by rw [beq_eq_false_iff_ne]; omega
            clear hk0
            go_wp2_with fail
            have cc := CT.out k wr (by omega) hlt hB
            refine cc.mono ?_
            rintro e w4 ⟨rfl, hb4⟩
            clear cc
            have hz4 : w2.heap.size < w4.heap.size := Nat.lt_of_lt_of_le HS2.out.lt hb4.size
            have B4 := Lib.hid (hB.trans (hb4.mono hB.size))
            have Y4 := Lib.hid (HY2.out.keep hb4)
            have S4 := HS2.out.keep hb4
            have p0 := S4.cell 0
            have p1 := S4.cell 1
            have q0 := S4.frozen 0
            have q1 := S4.frozen 1
            simp at p0 p1
            have HS4 := Lib.hid S4
            clear S4
            go_wp2_with fail
            all_goals
              refine ⟨⟨k + 1, _, _, by omega, rfl, rfl, by go_num, by omega, by omega, by omega, by omega, by omega, ((B4.out.setCell (p := ⟨w2.heap.size, 0, none⟩) b2.size _).setCell (p := ⟨w2.heap.size, 1, none⟩) b2.size _).alloc (Nat.le_trans B4.out.size (by simp [World.setCell])) _, ?_, ?_⟩, by simp [intOf]; omega⟩
              · exact ((Y4.out.far (p := ⟨w2.heap.size, 0, none⟩) (by have := Y2.out.lt; dsimp; omega) _).far (p := ⟨w2.heap.size, 1, none⟩) (by have := Y2.out.lt; dsimp; omega) _).alloc _
              · have := (((HS4.out.set_ 0 (.int .i64 (((k : Int) + 1) * base))).set_ 1 (.int .i64 (taxAt base (of % 60 + 1) al t ((k : Int) + 1)))).alloc (.cells #[.int .i64 (((k : Int) + 1) * base), .int .i64 (taxAt base (of % 60 + 1) al t ((k : Int) + 1))] 30))
                simpa using this
        · go_wp2_with fail
          refine (law24_awake _).mono ?_
          rintro e w5 ⟨rfl, hb5⟩
          go_wp2_with fail
          all_goals
            go_ret
            exact ⟨ret_bool (by simp <;> omega), hB.trans (hb5.mono hB.size)⟩
    · by_cases q1 : base < 0
      · go_enter Try.func6, Try.ntmps6
        go_wp2_with fail
        refine (law24_right al ex A cap t _ hcap (SNH.out _ bel0)).mono ?_
        rintro e w1 ⟨b, rfl, hb, hb1⟩
        obtain rfl : b = true := hb.2 HR.out
        clear hb
        go_wp2_with fail
        refine (law24_awake _).mono ?_
        rintro e w2 ⟨rfl, hb2⟩
        go_wp2_with fail
        go_ret
        exact ⟨rfl, (bel0.trans (hb1.mono bel0.size)).trans (hb2.mono (Nat.le_trans bel0.size hb1.size))⟩
      · have q2 : 1099511627776 < base := by omega
        go_enter Try.func6, Try.ntmps6
        go_wp2_with fail
        refine (law24_right al ex A cap t _ hcap (SNH.out _ bel0)).mono ?_
        rintro e w1 ⟨b, rfl, hb, hb1⟩
        obtain rfl : b = true := hb.2 HR.out
        clear hb
        go_wp2_with fail
        refine (law24_awake _).mono ?_
        rintro e w2 ⟨rfl, hb2⟩
        go_wp2_with fail
        go_ret
        exact ⟨rfl, (bel0.trans (hb1.mono bel0.size)).trans (hb2.mono (Nat.le_trans bel0.size hb1.size))⟩
  · have HR := Lib.hid hR
    clear hR
    go_enter Try.func6, Try.ntmps6
    go_wp2_with fail
    refine (law24_right al ex A cap t _ hcap (SNH.out _ bel0)).mono ?_
    rintro e w1 ⟨b, rfl, hb, hb1⟩
    obtain rfl : b = false := by cases b; rfl; exact absurd (hb.1 rfl) HR.out
    clear hb
    go_wp2_with fail
    refine (law24_awake _).mono ?_
    rintro e w2 ⟨rfl, hb2⟩
    go_wp2_with fail
    go_ret
    exact ⟨rfl, (bel0.trans (hb1.mono bel0.size)).trans (hb2.mono (Nat.le_trans bel0.size hb1.size))⟩
end Go.Proofs.Ytkpfjabeppdjlaa
