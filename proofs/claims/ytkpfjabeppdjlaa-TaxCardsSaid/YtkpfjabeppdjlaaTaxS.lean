/- The statements TaxRises and TaxCards: their walks. -/
import Derived.Test.YtkpfjabeppdjlaaTaxR
import Derived.Test.YtkpfjabeppdjlaaTaxA
namespace Go.Proofs.Ytkpfjabeppdjlaa
open Go.RowKit

set_option maxRecDepth 100000 in
set_option maxHeartbeats 2000000 in
theorem rises_walk (base more index of al ex : Int) (A : Option Addr) (cap : Nat) (t : List (Int × Int)) (w : World) (hcap : t.length ≤ 9223372036854775807) (hs : Sl encBand 2 w w.heap.size A t) :
    Calls Try.prog 4 #[.int .i64 base, .int .i64 more, .int .i64 index, .int .i64 of, cardV al ex A t.length cap] w fun e w' => e = .returned (.bool true) ∧ Below w.heap.size w w' := by
  have bel0 : Below w.heap.size w (w.alloc (.cells #[.int .i64 al, .int .i64 ex, .slice A t.length cap] 28)) := (Below.refl _ w).alloc (Nat.le_refl _) _
  have SN : ∀ w1, Below w.heap.size w w1 → Sl encBand 2 w1 w1.heap.size A t := fun w1 h => (hs.below h).more h.size
  have SNH := Lib.hid SN
  have HS := Lib.hid hs
  clear SN hs
  by_cases hR : RightP t al ex
  · have HR := Lib.hid hR
    by_cases c1 : base ≤ 1099511627776 ∧ -1099511627776 ≤ base ∧ 0 ≤ more ∧ more ≤ 1099511627776
    · obtain ⟨c1, c2, c3, c4⟩ := c1
      by_cases hi : index < 1 ∨ of < index ∨ 400 < of
      · have E1 := Lib.hid (toDate_range (base := base) (al := al) (ex := ex) (t := t) hi)
        have E2 := Lib.hid (toDate_range (base := base + more) (al := al) (ex := ex) (t := t) hi)
        clear hR
        rcases hi with hi | hi | hi
        · go_enter Try.func4, Try.ntmps4
          go_wp2_with fail
          refine (law24_right al ex A cap t _ hcap (SNH.out _ bel0)).mono ?_
          rintro e w1 ⟨b, rfl, hb, hb1⟩
          obtain rfl : b = true := hb.2 HR.out
          clear hb
          have d1 : Below (w.alloc (.cells #[.int .i64 al, .int .i64 ex, .slice A t.length cap] 28)).heap.size (w.alloc (.cells #[.int .i64 al, .int .i64 ex, .slice A t.length cap] 28)) w1 := hb1
          have b1 : Below w.heap.size w w1 := bel0.trans (d1.mono bel0.size)
          obtain ⟨hc1, hf1⟩ := bcell d1
          have k1 : w.heap.size < w1.heap.size := by have := d1.size; simp at this; omega
          go_wp2_with fail
          have s2 := tax_ToDate base index of al ex A cap t _ hcap (SNH.out _ b1)
          rw [E1.out] at s2
          refine s2.mono ?_
          rintro e w2 ⟨rfl, hb2⟩
          clear s2 hc1 hf1
          have d2 : Below (w.alloc (.cells #[.int .i64 al, .int .i64 ex, .slice A t.length cap] 28)).heap.size (w.alloc (.cells #[.int .i64 al, .int .i64 ex, .slice A t.length cap] 28)) w2 := d1.trans (hb2.mono d1.size)
          have b2 : Below w.heap.size w w2 := bel0.trans (d2.mono bel0.size)
          obtain ⟨hc2, hf2⟩ := bcell d2
          have k2 : w.heap.size < w2.heap.size := by have := d2.size; simp at this; omega
          go_wp2_with fail
          have s3 := tax_ToDate (base + more) index of al ex A cap t _ hcap (SNH.out _ b2)
          rw [E2.out] at s3
          refine s3.mono ?_
          rintro e w3 ⟨rfl, hb3⟩
          clear s3 hc2 hf2
          have d3 : Below (w.alloc (.cells #[.int .i64 al, .int .i64 ex, .slice A t.length cap] 28)).heap.size (w.alloc (.cells #[.int .i64 al, .int .i64 ex, .slice A t.length cap] 28)) w3 := d2.trans (hb3.mono d2.size)
          have b3 : Below w.heap.size w w3 := bel0.trans (d3.mono bel0.size)
          obtain ⟨hc3, hf3⟩ := bcell d3
          have k3 : w.heap.size < w3.heap.size := by have := d3.size; simp at this; omega
          go_wp2_with fail
          refine (law24_awake _).mono ?_
          rintro e w4 ⟨rfl, hb4⟩
          go_wp2_with fail
          go_ret
          exact ⟨rfl, b3.trans (hb4.mono b3.size)⟩
        · by_cases i1 : index < 1
          · go_enter Try.func4, Try.ntmps4
            go_wp2_with fail
            refine (law24_right al ex A cap t _ hcap (SNH.out _ bel0)).mono ?_
            rintro e w1 ⟨b, rfl, hb, hb1⟩
            obtain rfl : b = true := hb.2 HR.out
            clear hb
            have d1 : Below (w.alloc (.cells #[.int .i64 al, .int .i64 ex, .slice A t.length cap] 28)).heap.size (w.alloc (.cells #[.int .i64 al, .int .i64 ex, .slice A t.length cap] 28)) w1 := hb1
            have b1 : Below w.heap.size w w1 := bel0.trans (d1.mono bel0.size)
            obtain ⟨hc1, hf1⟩ := bcell d1
            have k1 : w.heap.size < w1.heap.size := by have := d1.size; simp at this; omega
            go_wp2_with fail
            have s2 := tax_ToDate base index of al ex A cap t _ hcap (SNH.out _ b1)
            rw [E1.out] at s2
            refine s2.mono ?_
            rintro e w2 ⟨rfl, hb2⟩
            clear s2 hc1 hf1
            have d2 : Below (w.alloc (.cells #[.int .i64 al, .int .i64 ex, .slice A t.length cap] 28)).heap.size (w.alloc (.cells #[.int .i64 al, .int .i64 ex, .slice A t.length cap] 28)) w2 := d1.trans (hb2.mono d1.size)
            have b2 : Below w.heap.size w w2 := bel0.trans (d2.mono bel0.size)
            obtain ⟨hc2, hf2⟩ := bcell d2
            have k2 : w.heap.size < w2.heap.size := by have := d2.size; simp at this; omega
            go_wp2_with fail
            have s3 := tax_ToDate (base + more) index of al ex A cap t _ hcap (SNH.out _ b2)
            rw [E2.out] at s3
            refine s3.mono ?_
            rintro e w3 ⟨rfl, hb3⟩
            clear s3 hc2 hf2
            have d3 : Below (w.alloc (.cells #[.int .i64 al, .int .i64 ex, .slice A t.length cap] 28)).heap.size (w.alloc (.cells #[.int .i64 al, .int .i64 ex, .slice A t.length cap] 28)) w3 := d2.trans (hb3.mono d2.size)
            have b3 : Below w.heap.size w w3 := bel0.trans (d3.mono bel0.size)
            obtain ⟨hc3, hf3⟩ := bcell d3
            have k3 : w.heap.size < w3.heap.size := by have := d3.size; simp at this; omega
            go_wp2_with fail
            refine (law24_awake _).mono ?_
            rintro e w4 ⟨rfl, hb4⟩
            go_wp2_with fail
            go_ret
            exact ⟨rfl, b3.trans (hb4.mono b3.size)⟩
          · go_enter Try.func4, Try.ntmps4
            go_wp2_with fail
            refine (law24_right al ex A cap t _ hcap (SNH.out _ bel0)).mono ?_
            rintro e w1 ⟨b, rfl, hb, hb1⟩
            obtain rfl : b = true := hb.2 HR.out
            clear hb
            have d1 : Below (w.alloc (.cells #[.int .i64 al, .int .i64 ex, .slice A t.length cap] 28)).heap.size (w.alloc (.cells #[.int .i64 al, .int .i64 ex, .slice A t.length cap] 28)) w1 := hb1
            have b1 : Below w.heap.size w w1 := bel0.trans (d1.mono bel0.size)
            obtain ⟨hc1, hf1⟩ := bcell d1
            have k1 : w.heap.size < w1.heap.size := by have := d1.size; simp at this; omega
            go_wp2_with fail
            have s2 := tax_ToDate base index of al ex A cap t _ hcap (SNH.out _ b1)
            rw [E1.out] at s2
            refine s2.mono ?_
            rintro e w2 ⟨rfl, hb2⟩
            clear s2 hc1 hf1
            have d2 : Below (w.alloc (.cells #[.int .i64 al, .int .i64 ex, .slice A t.length cap] 28)).heap.size (w.alloc (.cells #[.int .i64 al, .int .i64 ex, .slice A t.length cap] 28)) w2 := d1.trans (hb2.mono d1.size)
            have b2 : Below w.heap.size w w2 := bel0.trans (d2.mono bel0.size)
            obtain ⟨hc2, hf2⟩ := bcell d2
            have k2 : w.heap.size < w2.heap.size := by have := d2.size; simp at this; omega
            go_wp2_with fail
            have s3 := tax_ToDate (base + more) index of al ex A cap t _ hcap (SNH.out _ b2)
            rw [E2.out] at s3
            refine s3.mono ?_
            rintro e w3 ⟨rfl, hb3⟩
            clear s3 hc2 hf2
            have d3 : Below (w.alloc (.cells #[.int .i64 al, .int .i64 ex, .slice A t.length cap] 28)).heap.size (w.alloc (.cells #[.int .i64 al, .int .i64 ex, .slice A t.length cap] 28)) w3 := d2.trans (hb3.mono d2.size)
            have b3 : Below w.heap.size w w3 := bel0.trans (d3.mono bel0.size)
            obtain ⟨hc3, hf3⟩ := bcell d3
            have k3 : w.heap.size < w3.heap.size := by have := d3.size; simp at this; omega
            go_wp2_with fail
            refine (law24_awake _).mono ?_
            rintro e w4 ⟨rfl, hb4⟩
            go_wp2_with fail
            go_ret
            exact ⟨rfl, b3.trans (hb4.mono b3.size)⟩
        · by_cases i1 : index < 1
          · go_enter Try.func4, Try.ntmps4
            go_wp2_with fail
            refine (law24_right al ex A cap t _ hcap (SNH.out _ bel0)).mono ?_
            rintro e w1 ⟨b, rfl, hb, hb1⟩
            obtain rfl : b = true := hb.2 HR.out
            clear hb
            have d1 : Below (w.alloc (.cells #[.int .i64 al, .int .i64 ex, .slice A t.length cap] 28)).heap.size (w.alloc (.cells #[.int .i64 al, .int .i64 ex, .slice A t.length cap] 28)) w1 := hb1
            have b1 : Below w.heap.size w w1 := bel0.trans (d1.mono bel0.size)
            obtain ⟨hc1, hf1⟩ := bcell d1
            have k1 : w.heap.size < w1.heap.size := by have := d1.size; simp at this; omega
            go_wp2_with fail
            have s2 := tax_ToDate base index of al ex A cap t _ hcap (SNH.out _ b1)
            rw [E1.out] at s2
            refine s2.mono ?_
            rintro e w2 ⟨rfl, hb2⟩
            clear s2 hc1 hf1
            have d2 : Below (w.alloc (.cells #[.int .i64 al, .int .i64 ex, .slice A t.length cap] 28)).heap.size (w.alloc (.cells #[.int .i64 al, .int .i64 ex, .slice A t.length cap] 28)) w2 := d1.trans (hb2.mono d1.size)
            have b2 : Below w.heap.size w w2 := bel0.trans (d2.mono bel0.size)
            obtain ⟨hc2, hf2⟩ := bcell d2
            have k2 : w.heap.size < w2.heap.size := by have := d2.size; simp at this; omega
            go_wp2_with fail
            have s3 := tax_ToDate (base + more) index of al ex A cap t _ hcap (SNH.out _ b2)
            rw [E2.out] at s3
            refine s3.mono ?_
            rintro e w3 ⟨rfl, hb3⟩
            clear s3 hc2 hf2
            have d3 : Below (w.alloc (.cells #[.int .i64 al, .int .i64 ex, .slice A t.length cap] 28)).heap.size (w.alloc (.cells #[.int .i64 al, .int .i64 ex, .slice A t.length cap] 28)) w3 := d2.trans (hb3.mono d2.size)
            have b3 : Below w.heap.size w w3 := bel0.trans (d3.mono bel0.size)
            obtain ⟨hc3, hf3⟩ := bcell d3
            have k3 : w.heap.size < w3.heap.size := by have := d3.size; simp at this; omega
            go_wp2_with fail
            refine (law24_awake _).mono ?_
            rintro e w4 ⟨rfl, hb4⟩
            go_wp2_with fail
            go_ret
            exact ⟨rfl, b3.trans (hb4.mono b3.size)⟩
          · by_cases i2 : of < index
            · go_enter Try.func4, Try.ntmps4
              go_wp2_with fail
              refine (law24_right al ex A cap t _ hcap (SNH.out _ bel0)).mono ?_
              rintro e w1 ⟨b, rfl, hb, hb1⟩
              obtain rfl : b = true := hb.2 HR.out
              clear hb
              have d1 : Below (w.alloc (.cells #[.int .i64 al, .int .i64 ex, .slice A t.length cap] 28)).heap.size (w.alloc (.cells #[.int .i64 al, .int .i64 ex, .slice A t.length cap] 28)) w1 := hb1
              have b1 : Below w.heap.size w w1 := bel0.trans (d1.mono bel0.size)
              obtain ⟨hc1, hf1⟩ := bcell d1
              have k1 : w.heap.size < w1.heap.size := by have := d1.size; simp at this; omega
              go_wp2_with fail
              have s2 := tax_ToDate base index of al ex A cap t _ hcap (SNH.out _ b1)
              rw [E1.out] at s2
              refine s2.mono ?_
              rintro e w2 ⟨rfl, hb2⟩
              clear s2 hc1 hf1
              have d2 : Below (w.alloc (.cells #[.int .i64 al, .int .i64 ex, .slice A t.length cap] 28)).heap.size (w.alloc (.cells #[.int .i64 al, .int .i64 ex, .slice A t.length cap] 28)) w2 := d1.trans (hb2.mono d1.size)
              have b2 : Below w.heap.size w w2 := bel0.trans (d2.mono bel0.size)
              obtain ⟨hc2, hf2⟩ := bcell d2
              have k2 : w.heap.size < w2.heap.size := by have := d2.size; simp at this; omega
              go_wp2_with fail
              have s3 := tax_ToDate (base + more) index of al ex A cap t _ hcap (SNH.out _ b2)
              rw [E2.out] at s3
              refine s3.mono ?_
              rintro e w3 ⟨rfl, hb3⟩
              clear s3 hc2 hf2
              have d3 : Below (w.alloc (.cells #[.int .i64 al, .int .i64 ex, .slice A t.length cap] 28)).heap.size (w.alloc (.cells #[.int .i64 al, .int .i64 ex, .slice A t.length cap] 28)) w3 := d2.trans (hb3.mono d2.size)
              have b3 : Below w.heap.size w w3 := bel0.trans (d3.mono bel0.size)
              obtain ⟨hc3, hf3⟩ := bcell d3
              have k3 : w.heap.size < w3.heap.size := by have := d3.size; simp at this; omega
              go_wp2_with fail
              refine (law24_awake _).mono ?_
              rintro e w4 ⟨rfl, hb4⟩
              go_wp2_with fail
              go_ret
              exact ⟨rfl, b3.trans (hb4.mono b3.size)⟩
            · go_enter Try.func4, Try.ntmps4
              go_wp2_with fail
              refine (law24_right al ex A cap t _ hcap (SNH.out _ bel0)).mono ?_
              rintro e w1 ⟨b, rfl, hb, hb1⟩
              obtain rfl : b = true := hb.2 HR.out
              clear hb
              have d1 : Below (w.alloc (.cells #[.int .i64 al, .int .i64 ex, .slice A t.length cap] 28)).heap.size (w.alloc (.cells #[.int .i64 al, .int .i64 ex, .slice A t.length cap] 28)) w1 := hb1
              have b1 : Below w.heap.size w w1 := bel0.trans (d1.mono bel0.size)
              obtain ⟨hc1, hf1⟩ := bcell d1
              have k1 : w.heap.size < w1.heap.size := by have := d1.size; simp at this; omega
              go_wp2_with fail
              have s2 := tax_ToDate base index of al ex A cap t _ hcap (SNH.out _ b1)
              rw [E1.out] at s2
              refine s2.mono ?_
              rintro e w2 ⟨rfl, hb2⟩
              clear s2 hc1 hf1
              have d2 : Below (w.alloc (.cells #[.int .i64 al, .int .i64 ex, .slice A t.length cap] 28)).heap.size (w.alloc (.cells #[.int .i64 al, .int .i64 ex, .slice A t.length cap] 28)) w2 := d1.trans (hb2.mono d1.size)
              have b2 : Below w.heap.size w w2 := bel0.trans (d2.mono bel0.size)
              obtain ⟨hc2, hf2⟩ := bcell d2
              have k2 : w.heap.size < w2.heap.size := by have := d2.size; simp at this; omega
              go_wp2_with fail
              have s3 := tax_ToDate (base + more) index of al ex A cap t _ hcap (SNH.out _ b2)
              rw [E2.out] at s3
              refine s3.mono ?_
              rintro e w3 ⟨rfl, hb3⟩
              clear s3 hc2 hf2
              have d3 : Below (w.alloc (.cells #[.int .i64 al, .int .i64 ex, .slice A t.length cap] 28)).heap.size (w.alloc (.cells #[.int .i64 al, .int .i64 ex, .slice A t.length cap] 28)) w3 := d2.trans (hb3.mono d2.size)
              have b3 : Below w.heap.size w w3 := bel0.trans (d3.mono bel0.size)
              obtain ⟨hc3, hf3⟩ := bcell d3
              have k3 : w.heap.size < w3.heap.size := by have := d3.size; simp at this; omega
              go_wp2_with fail
              refine (law24_awake _).mono ?_
              rintro e w4 ⟨rfl, hb4⟩
              go_wp2_with fail
              go_ret
              exact ⟨rfl, b3.trans (hb4.mono b3.size)⟩
      · obtain ⟨a, b', e1, e2, g1, g2, g3, g4⟩ := rises hR c2 c1 c3 c4 hi
        have E1 := Lib.hid e1
        have E2 := Lib.hid e2
        clear hR e1 e2
        obtain ⟨i1, i2, i3⟩ : 1 ≤ index ∧ index ≤ of ∧ of ≤ 400 := by omega
        clear hi
        go_enter Try.func4, Try.ntmps4
        go_wp2_with fail
        refine (law24_right al ex A cap t _ hcap (SNH.out _ bel0)).mono ?_
        rintro e w1 ⟨b, rfl, hb, hb1⟩
        obtain rfl : b = true := hb.2 HR.out
        clear hb
        have d1 : Below (w.alloc (.cells #[.int .i64 al, .int .i64 ex, .slice A t.length cap] 28)).heap.size (w.alloc (.cells #[.int .i64 al, .int .i64 ex, .slice A t.length cap] 28)) w1 := hb1
        have b1 : Below w.heap.size w w1 := bel0.trans (d1.mono bel0.size)
        obtain ⟨hc1, hf1⟩ := bcell d1
        have k1 : w.heap.size < w1.heap.size := by have := d1.size; simp at this; omega
        go_wp2_with fail
        have s2 := tax_ToDate base index of al ex A cap t _ hcap (SNH.out _ b1)
        rw [E1.out] at s2
        refine s2.mono ?_
        rintro e w2 ⟨rfl, hb2⟩
        clear s2 hc1 hf1
        have d2 : Below (w.alloc (.cells #[.int .i64 al, .int .i64 ex, .slice A t.length cap] 28)).heap.size (w.alloc (.cells #[.int .i64 al, .int .i64 ex, .slice A t.length cap] 28)) w2 := d1.trans (hb2.mono d1.size)
        have b2 : Below w.heap.size w w2 := bel0.trans (d2.mono bel0.size)
        obtain ⟨hc2, hf2⟩ := bcell d2
        have k2 : w.heap.size < w2.heap.size := by have := d2.size; simp at this; omega
        go_wp2_with fail
        have s3 := tax_ToDate (base + more) index of al ex A cap t _ hcap (SNH.out _ b2)
        rw [E2.out] at s3
        refine s3.mono ?_
        rintro e w3 ⟨rfl, hb3⟩
        clear s3 hc2 hf2
        have d3 : Below (w.alloc (.cells #[.int .i64 al, .int .i64 ex, .slice A t.length cap] 28)).heap.size (w.alloc (.cells #[.int .i64 al, .int .i64 ex, .slice A t.length cap] 28)) w3 := d2.trans (hb3.mono d2.size)
        have b3 : Below w.heap.size w w3 := bel0.trans (d3.mono bel0.size)
        obtain ⟨hc3, hf3⟩ := bcell d3
        have k3 : w.heap.size < w3.heap.size := by have := d3.size; simp at this; omega
        go_wp2_with fail
        refine (law24_awake _).mono ?_
        rintro e w4 ⟨rfl, hb4⟩
        go_wp2_with fail
        all_goals
          go_ret
          exact ⟨ret_bool (by simp <;> omega), b3.trans (hb4.mono b3.size)⟩
    · have c1' : 1099511627776 < base ∨ base < -1099511627776 ∨ more < 0 ∨ 1099511627776 < more := by omega
      clear hR c1
      by_cases q1 : 1099511627776 < base
      · go_enter Try.func4, Try.ntmps4
        go_wp2_with fail
        refine (law24_right al ex A cap t _ hcap (SNH.out _ bel0)).mono ?_
        rintro e w1 ⟨b, rfl, hb, hb1⟩
        obtain rfl : b = true := hb.2 HR.out
        clear hb
        have d1 : Below (w.alloc (.cells #[.int .i64 al, .int .i64 ex, .slice A t.length cap] 28)).heap.size (w.alloc (.cells #[.int .i64 al, .int .i64 ex, .slice A t.length cap] 28)) w1 := hb1
        have b1 : Below w.heap.size w w1 := bel0.trans (d1.mono bel0.size)
        obtain ⟨hc1, hf1⟩ := bcell d1
        have k1 : w.heap.size < w1.heap.size := by have := d1.size; simp at this; omega
        go_wp2_with fail
        refine (law24_awake _).mono ?_
        rintro e w2 ⟨rfl, hb2⟩
        go_wp2_with fail
        go_ret
        exact ⟨rfl, b1.trans (hb2.mono b1.size)⟩
      · by_cases q2 : base < -1099511627776
        · go_enter Try.func4, Try.ntmps4
          go_wp2_with fail
          refine (law24_right al ex A cap t _ hcap (SNH.out _ bel0)).mono ?_
          rintro e w1 ⟨b, rfl, hb, hb1⟩
          obtain rfl : b = true := hb.2 HR.out
          clear hb
          have d1 : Below (w.alloc (.cells #[.int .i64 al, .int .i64 ex, .slice A t.length cap] 28)).heap.size (w.alloc (.cells #[.int .i64 al, .int .i64 ex, .slice A t.length cap] 28)) w1 := hb1
          have b1 : Below w.heap.size w w1 := bel0.trans (d1.mono bel0.size)
          obtain ⟨hc1, hf1⟩ := bcell d1
          have k1 : w.heap.size < w1.heap.size := by have := d1.size; simp at this; omega
          go_wp2_with fail
          refine (law24_awake _).mono ?_
          rintro e w2 ⟨rfl, hb2⟩
          go_wp2_with fail
          go_ret
          exact ⟨rfl, b1.trans (hb2.mono b1.size)⟩
        · by_cases q3 : more < 0
          · go_enter Try.func4, Try.ntmps4
            go_wp2_with fail
            refine (law24_right al ex A cap t _ hcap (SNH.out _ bel0)).mono ?_
            rintro e w1 ⟨b, rfl, hb, hb1⟩
            obtain rfl : b = true := hb.2 HR.out
            clear hb
            have d1 : Below (w.alloc (.cells #[.int .i64 al, .int .i64 ex, .slice A t.length cap] 28)).heap.size (w.alloc (.cells #[.int .i64 al, .int .i64 ex, .slice A t.length cap] 28)) w1 := hb1
            have b1 : Below w.heap.size w w1 := bel0.trans (d1.mono bel0.size)
            obtain ⟨hc1, hf1⟩ := bcell d1
            have k1 : w.heap.size < w1.heap.size := by have := d1.size; simp at this; omega
            go_wp2_with fail
            refine (law24_awake _).mono ?_
            rintro e w2 ⟨rfl, hb2⟩
            go_wp2_with fail
            go_ret
            exact ⟨rfl, b1.trans (hb2.mono b1.size)⟩
          · have q4 : 1099511627776 < more := by omega
            go_enter Try.func4, Try.ntmps4
            go_wp2_with fail
            refine (law24_right al ex A cap t _ hcap (SNH.out _ bel0)).mono ?_
            rintro e w1 ⟨b, rfl, hb, hb1⟩
            obtain rfl : b = true := hb.2 HR.out
            clear hb
            have d1 : Below (w.alloc (.cells #[.int .i64 al, .int .i64 ex, .slice A t.length cap] 28)).heap.size (w.alloc (.cells #[.int .i64 al, .int .i64 ex, .slice A t.length cap] 28)) w1 := hb1
            have b1 : Below w.heap.size w w1 := bel0.trans (d1.mono bel0.size)
            obtain ⟨hc1, hf1⟩ := bcell d1
            have k1 : w.heap.size < w1.heap.size := by have := d1.size; simp at this; omega
            go_wp2_with fail
            refine (law24_awake _).mono ?_
            rintro e w2 ⟨rfl, hb2⟩
            go_wp2_with fail
            go_ret
            exact ⟨rfl, b1.trans (hb2.mono b1.size)⟩
  · have HR := Lib.hid hR
    clear hR
    go_enter Try.func4, Try.ntmps4
    go_wp2_with fail
    refine (law24_right al ex A cap t _ hcap (SNH.out _ bel0)).mono ?_
    rintro e w1 ⟨b, rfl, hb, hb1⟩
    obtain rfl : b = false := by cases b; rfl; exact absurd (hb.1 rfl) HR.out
    clear hb
    have d1 : Below (w.alloc (.cells #[.int .i64 al, .int .i64 ex, .slice A t.length cap] 28)).heap.size (w.alloc (.cells #[.int .i64 al, .int .i64 ex, .slice A t.length cap] 28)) w1 := hb1
    have b1 : Below w.heap.size w w1 := bel0.trans (d1.mono bel0.size)
    obtain ⟨hc1, hf1⟩ := bcell d1
    have k1 : w.heap.size < w1.heap.size := by have := d1.size; simp at this; omega
    go_wp2_with fail
    refine (law24_awake _).mono ?_
    rintro e w2 ⟨rfl, hb2⟩
    go_wp2_with fail
    go_ret
    exact ⟨rfl, b1.trans (hb2.mono b1.size)⟩

set_option maxRecDepth 100000 in
set_option maxHeartbeats 2000000 in
theorem cards_walk (base index of al ex more : Int) (A : Option Addr) (cap : Nat) (t : List (Int × Int)) (w : World) (hcap : t.length ≤ 9223372036854775807) (hs : Sl encBand 2 w w.heap.size A t) :
    Calls Try.prog 5 #[.int .i64 base, .int .i64 index, .int .i64 of, cardV al ex A t.length cap, .int .i64 more] w fun e w' => e = .returned (.bool true) ∧ Below w.heap.size w w' := by
  have bel0 : Below w.heap.size w (w.alloc (.cells #[.int .i64 al, .int .i64 ex, .slice A t.length cap] 28)) := (Below.refl _ w).alloc (Nat.le_refl _) _
  have SN : ∀ w1, Below w.heap.size w w1 → Sl encBand 2 w1 w1.heap.size A t := fun w1 h => (hs.below h).more h.size
  have SNH := Lib.hid SN
  have HS := Lib.hid hs
  clear SN hs
  by_cases hR : RightP t al ex
  · have HR := Lib.hid hR
    by_cases c1 : base ≤ 1099511627776 ∧ -1099511627776 ≤ base ∧ 0 ≤ more ∧ more ≤ 1099511627776
    · obtain ⟨c1, c2, c3, c4⟩ := c1
      have a0 := hR.al0
      have a1 := hR.al1
      obtain ⟨E, a, b', z, e1, e2, e3, g0, g1⟩ : ∃ E a b z : Int, toDateV base index of al ex t = (a, E) ∧ toDateV base index of (al + more) ex t = (b, E) ∧ toDateV base index of al ex [] = (z, E) ∧ z = 0 ∧ b ≤ a := by
        by_cases hi : index < 1 ∨ of < index ∨ 400 < of
        · exact ⟨2, 0, 0, 0, toDate_range hi, toDate_range hi, toDate_range hi, rfl, Int.le_refl _⟩
        · obtain ⟨a, b, e1, e2, e3, e4⟩ := cards hR c2 c1 c3 c4 hi
          exact ⟨0, a, b, 0, e1, e2, e3, rfl, e4⟩
      subst g0
      have E1 := Lib.hid e1
      have E2 := Lib.hid e2
      have E3 := Lib.hid e3
      clear hR e1 e2 e3
      go_enter Try.func5, Try.ntmps5
      go_wp2_with fail
      refine (law24_right al ex A cap t _ hcap (SNH.out _ bel0)).mono ?_
      rintro e w1 ⟨b, rfl, hb, hb1⟩
      obtain rfl : b = true := hb.2 HR.out
      clear hb
      have d1 : Below (w.alloc (.cells #[.int .i64 al, .int .i64 ex, .slice A t.length cap] 28)).heap.size (w.alloc (.cells #[.int .i64 al, .int .i64 ex, .slice A t.length cap] 28)) w1 := hb1
      have b1 : Below w.heap.size w w1 := bel0.trans (d1.mono bel0.size)
      obtain ⟨hc1, hf1⟩ := bcell d1
      have k1 : w.heap.size < w1.heap.size := by have := d1.size; simp at this; omega
      go_wp2_with fail
      have belW : Below w.heap.size w ((w1.alloc (.cells #[.int .i64 (al + more), .int .i64 ex, .slice A t.length cap] 28)).alloc (.cells #[.int .i64 al, .int .i64 ex, .slice none 0 0] 28)) := (b1.alloc (by omega) _).alloc (by simp; omega) _
      have m0 : w.heap.size < w1.heap.size + 1 + 1 := by omega
      have m1 : w1.heap.size < w1.heap.size + 1 + 1 := by omega
      have m2 : w1.heap.size + 1 < w1.heap.size + 1 + 1 := by omega
      have c2' := fun W h => tax_ToDate base index of al ex A cap t W hcap (SNH.out W h)
      have c3' := fun W h => tax_ToDate base index of (al + more) ex A cap t W hcap (SNH.out W h)
      have c4' := fun W (_ : Below w.heap.size w W) => tax_ToDate base index of al ex none 0 [] W (by simp) (fun h => absurd rfl h)
      have CC2 := Lib.hid c2'
      have CC3 := Lib.hid c3'
      have CC4 := Lib.hid c4'
      clear c2' c3' c4'
      have s2 := CC2.out _ belW
      rw [E1.out] at s2
      refine s2.mono ?_
      rintro e w2 ⟨rfl, hb2⟩
      clear s2
      have d2 : Below ((w1.alloc (.cells #[.int .i64 (al + more), .int .i64 ex, .slice A t.length cap] 28)).alloc (.cells #[.int .i64 al, .int .i64 ex, .slice none 0 0] 28)).heap.size ((w1.alloc (.cells #[.int .i64 (al + more), .int .i64 ex, .slice A t.length cap] 28)).alloc (.cells #[.int .i64 al, .int .i64 ex, .slice none 0 0] 28)) w2 := hb2
      have b2 : Below w.heap.size w w2 := belW.trans (d2.mono belW.size)
      obtain ⟨hc2, hf2⟩ := bcell d2
      have kk2 : w1.heap.size + 1 < w2.heap.size := by have := d2.size; simp at this; omega
      have km2 : w1.heap.size < w2.heap.size := by omega
      have kl2 : w.heap.size < w2.heap.size := by omega
      go_wp2_with fail
      have s3 := CC3.out _ b2
      rw [E2.out] at s3
      refine s3.mono ?_
      rintro e w3 ⟨rfl, hb3⟩
      clear s3 hc2 hf2
      have d3 : Below ((w1.alloc (.cells #[.int .i64 (al + more), .int .i64 ex, .slice A t.length cap] 28)).alloc (.cells #[.int .i64 al, .int .i64 ex, .slice none 0 0] 28)).heap.size ((w1.alloc (.cells #[.int .i64 (al + more), .int .i64 ex, .slice A t.length cap] 28)).alloc (.cells #[.int .i64 al, .int .i64 ex, .slice none 0 0] 28)) w3 := d2.trans (hb3.mono d2.size)
      have b3 : Below w.heap.size w w3 := belW.trans (d3.mono belW.size)
      obtain ⟨hc3, hf3⟩ := bcell d3
      have kk3 : w1.heap.size + 1 < w3.heap.size := by have := d3.size; simp at this; omega
      have km3 : w1.heap.size < w3.heap.size := by omega
      have kl3 : w.heap.size < w3.heap.size := by omega
      go_wp2_with fail
      have s4 := CC4.out _ b3
      rw [E3.out] at s4
      refine s4.mono ?_
      rintro e w4 ⟨rfl, hb4⟩
      clear s4 hc3 hf3
      have d4 : Below ((w1.alloc (.cells #[.int .i64 (al + more), .int .i64 ex, .slice A t.length cap] 28)).alloc (.cells #[.int .i64 al, .int .i64 ex, .slice none 0 0] 28)).heap.size ((w1.alloc (.cells #[.int .i64 (al + more), .int .i64 ex, .slice A t.length cap] 28)).alloc (.cells #[.int .i64 al, .int .i64 ex, .slice none 0 0] 28)) w4 := d3.trans (hb4.mono d3.size)
      have b4 : Below w.heap.size w w4 := belW.trans (d4.mono belW.size)
      obtain ⟨hc4, hf4⟩ := bcell d4
      have kk4 : w1.heap.size + 1 < w4.heap.size := by have := d4.size; simp at this; omega
      have km4 : w1.heap.size < w4.heap.size := by omega
      have kl4 : w.heap.size < w4.heap.size := by omega
      go_wp2_with fail
      refine (law24_awake _).mono ?_
      rintro e w5 ⟨rfl, hb5⟩
      go_wp2_with fail
      all_goals
        go_ret
        exact ⟨ret_bool (by simp <;> omega), b4.trans (hb5.mono b4.size)⟩
    · have c1' : 1099511627776 < base ∨ base < -1099511627776 ∨ more < 0 ∨ 1099511627776 < more := by omega
      clear hR c1
      by_cases q1 : 1099511627776 < base
      · go_enter Try.func5, Try.ntmps5
        go_wp2_with fail
        refine (law24_right al ex A cap t _ hcap (SNH.out _ bel0)).mono ?_
        rintro e w1 ⟨b, rfl, hb, hb1⟩
        obtain rfl : b = true := hb.2 HR.out
        clear hb
        have d1 : Below (w.alloc (.cells #[.int .i64 al, .int .i64 ex, .slice A t.length cap] 28)).heap.size (w.alloc (.cells #[.int .i64 al, .int .i64 ex, .slice A t.length cap] 28)) w1 := hb1
        have b1 : Below w.heap.size w w1 := bel0.trans (d1.mono bel0.size)
        obtain ⟨hc1, hf1⟩ := bcell d1
        have k1 : w.heap.size < w1.heap.size := by have := d1.size; simp at this; omega
        go_wp2_with fail
        refine (law24_awake _).mono ?_
        rintro e w2 ⟨rfl, hb2⟩
        go_wp2_with fail
        go_ret
        exact ⟨rfl, b1.trans (hb2.mono b1.size)⟩
      · by_cases q2 : base < -1099511627776
        · go_enter Try.func5, Try.ntmps5
          go_wp2_with fail
          refine (law24_right al ex A cap t _ hcap (SNH.out _ bel0)).mono ?_
          rintro e w1 ⟨b, rfl, hb, hb1⟩
          obtain rfl : b = true := hb.2 HR.out
          clear hb
          have d1 : Below (w.alloc (.cells #[.int .i64 al, .int .i64 ex, .slice A t.length cap] 28)).heap.size (w.alloc (.cells #[.int .i64 al, .int .i64 ex, .slice A t.length cap] 28)) w1 := hb1
          have b1 : Below w.heap.size w w1 := bel0.trans (d1.mono bel0.size)
          obtain ⟨hc1, hf1⟩ := bcell d1
          have k1 : w.heap.size < w1.heap.size := by have := d1.size; simp at this; omega
          go_wp2_with fail
          refine (law24_awake _).mono ?_
          rintro e w2 ⟨rfl, hb2⟩
          go_wp2_with fail
          go_ret
          exact ⟨rfl, b1.trans (hb2.mono b1.size)⟩
        · by_cases q3 : more < 0
          · go_enter Try.func5, Try.ntmps5
            go_wp2_with fail
            refine (law24_right al ex A cap t _ hcap (SNH.out _ bel0)).mono ?_
            rintro e w1 ⟨b, rfl, hb, hb1⟩
            obtain rfl : b = true := hb.2 HR.out
            clear hb
            have d1 : Below (w.alloc (.cells #[.int .i64 al, .int .i64 ex, .slice A t.length cap] 28)).heap.size (w.alloc (.cells #[.int .i64 al, .int .i64 ex, .slice A t.length cap] 28)) w1 := hb1
            have b1 : Below w.heap.size w w1 := bel0.trans (d1.mono bel0.size)
            obtain ⟨hc1, hf1⟩ := bcell d1
            have k1 : w.heap.size < w1.heap.size := by have := d1.size; simp at this; omega
            go_wp2_with fail
            refine (law24_awake _).mono ?_
            rintro e w2 ⟨rfl, hb2⟩
            go_wp2_with fail
            go_ret
            exact ⟨rfl, b1.trans (hb2.mono b1.size)⟩
          · have q4 : 1099511627776 < more := by omega
            go_enter Try.func5, Try.ntmps5
            go_wp2_with fail
            refine (law24_right al ex A cap t _ hcap (SNH.out _ bel0)).mono ?_
            rintro e w1 ⟨b, rfl, hb, hb1⟩
            obtain rfl : b = true := hb.2 HR.out
            clear hb
            have d1 : Below (w.alloc (.cells #[.int .i64 al, .int .i64 ex, .slice A t.length cap] 28)).heap.size (w.alloc (.cells #[.int .i64 al, .int .i64 ex, .slice A t.length cap] 28)) w1 := hb1
            have b1 : Below w.heap.size w w1 := bel0.trans (d1.mono bel0.size)
            obtain ⟨hc1, hf1⟩ := bcell d1
            have k1 : w.heap.size < w1.heap.size := by have := d1.size; simp at this; omega
            go_wp2_with fail
            refine (law24_awake _).mono ?_
            rintro e w2 ⟨rfl, hb2⟩
            go_wp2_with fail
            go_ret
            exact ⟨rfl, b1.trans (hb2.mono b1.size)⟩
  · have HR := Lib.hid hR
    clear hR
    go_enter Try.func5, Try.ntmps5
    go_wp2_with fail
    refine (law24_right al ex A cap t _ hcap (SNH.out _ bel0)).mono ?_
    rintro e w1 ⟨b, rfl, hb, hb1⟩
    obtain rfl : b = false := by cases b; rfl; exact absurd (hb.1 rfl) HR.out
    clear hb
    have d1 : Below (w.alloc (.cells #[.int .i64 al, .int .i64 ex, .slice A t.length cap] 28)).heap.size (w.alloc (.cells #[.int .i64 al, .int .i64 ex, .slice A t.length cap] 28)) w1 := hb1
    have b1 : Below w.heap.size w w1 := bel0.trans (d1.mono bel0.size)
    obtain ⟨hc1, hf1⟩ := bcell d1
    have k1 : w.heap.size < w1.heap.size := by have := d1.size; simp at this; omega
    go_wp2_with fail
    refine (law24_awake _).mono ?_
    rintro e w2 ⟨rfl, hb2⟩
    go_wp2_with fail
    go_ret
    exact ⟨rfl, b1.trans (hb2.mono b1.size)⟩
end Go.Proofs.Ytkpfjabeppdjlaa
