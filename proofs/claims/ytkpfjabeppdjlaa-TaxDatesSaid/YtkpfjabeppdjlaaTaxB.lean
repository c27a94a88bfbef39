/- The statement TaxDates: its walk. -/
import Derived.Test.YtkpfjabeppdjlaaTaxA
namespace Go.Proofs.Ytkpfjabeppdjlaa
open Go.RowKit

set_option maxRecDepth 100000 in
set_option maxHeartbeats 2000000 in
theorem dates_walk (base index of al ex : Int) (A : Option Addr) (cap : Nat) (t : List (Int × Int)) (w : World) (hcap : t.length ≤ 9223372036854775807) (hs : Sl encBand 2 w w.heap.size A t) :
    Calls Try.prog 7 #[.int .i64 base, .int .i64 index, .int .i64 of, cardV al ex A t.length cap] w fun e w' => e = .returned (.bool true) ∧ Below w.heap.size w w' := by
  have bel0 : Below w.heap.size w (w.alloc (.cells #[.int .i64 al, .int .i64 ex, .slice A t.length cap] 28)) := (Below.refl _ w).alloc (Nat.le_refl _) _
  have hs0 := hs.below bel0
  by_cases h100 : 100 < t.length
  · go_enter Try.func7, Try.ntmps7
    go_wp2_with (go_at_call 8; refine (law24_awake _).mono ?_; rintro e w1 ⟨rfl, hb1⟩)
    go_ret
    exact ⟨rfl, bel0.trans (hb1.mono bel0.size)⟩
  · have SN : ∀ w1, Below w.heap.size w w1 → Sl encBand 2 w1 w1.heap.size A t := fun w1 h => (hs.below h).more h.size
    have SNH := Lib.hid SN
    have HS0 := Lib.hid hs0
    have HS := Lib.hid hs
    clear SN hs hs0
    go_enter Try.func7, Try.ntmps7
    go_wp2_with fail
    refine (tax_ToDate base index of al ex A cap t _ hcap (SNH.out _ bel0)).mono ?_
    rintro e w1 ⟨rfl, hb1⟩
    have d1 : Below (w.alloc (.cells #[.int .i64 al, .int .i64 ex, .slice A t.length cap] 28)).heap.size (w.alloc (.cells #[.int .i64 al, .int .i64 ex, .slice A t.length cap] 28)) w1 := hb1
    have b1 : Below w.heap.size w w1 := bel0.trans (d1.mono bel0.size)
    obtain ⟨hc1, hf1⟩ := bcell d1
    have k1 : w.heap.size < w1.heap.size := by have := d1.size; simp at this; omega
    go_wp2_with fail
    refine (ref24_ToDate base index of al ex A cap t _ hcap (SNH.out _ b1)).mono ?_
    rintro e w2 ⟨rfl, hb2⟩
    have d2 : Below (w.alloc (.cells #[.int .i64 al, .int .i64 ex, .slice A t.length cap] 28)).heap.size (w.alloc (.cells #[.int .i64 al, .int .i64 ex, .slice A t.length cap] 28)) w2 := d1.trans (hb2.mono d1.size)
    have b2 : Below w.heap.size w w2 := bel0.trans (d2.mono bel0.size)
    obtain ⟨hc2, hf2⟩ := bcell d2
    have k2 : w.heap.size < w2.heap.size := by have := d2.size; simp at this; omega
    clear hc1 hf1
    go_wp2_with fail
    refine (tax_Yearly base al ex A cap t _ hcap (SNH.out _ b2)).mono ?_
    rintro e w3 ⟨rfl, hb3⟩
    have d3 : Below (w.alloc (.cells #[.int .i64 al, .int .i64 ex, .slice A t.length cap] 28)).heap.size (w.alloc (.cells #[.int .i64 al, .int .i64 ex, .slice A t.length cap] 28)) w3 := d2.trans (hb3.mono d2.size)
    have b3 : Below w.heap.size w w3 := bel0.trans (d3.mono bel0.size)
    obtain ⟨hc3, hf3⟩ := bcell d3
    have k3 : w.heap.size < w3.heap.size := by have := d3.size; simp at this; omega
    clear hc2 hf2
    go_wp2_with fail
    refine (ref24_ToDate base 1 1 al ex A cap t _ hcap (SNH.out _ b3)).mono ?_
    rintro e w4 ⟨rfl, hb4⟩
    have d4 : Below (w.alloc (.cells #[.int .i64 al, .int .i64 ex, .slice A t.length cap] 28)).heap.size (w.alloc (.cells #[.int .i64 al, .int .i64 ex, .slice A t.length cap] 28)) w4 := d3.trans (hb4.mono d3.size)
    have b4 : Below w.heap.size w w4 := bel0.trans (d4.mono bel0.size)
    obtain ⟨hc4, hf4⟩ := bcell d4
    have k4 : w.heap.size < w4.heap.size := by have := d4.size; simp at this; omega
    clear hc3 hf3
    go_wp2_with fail
    refine (tax_Single base of al ex A cap t _ hcap (SNH.out _ b4)).mono ?_
    rintro e w5 ⟨rfl, hb5⟩
    have d5 : Below (w.alloc (.cells #[.int .i64 al, .int .i64 ex, .slice A t.length cap] 28)).heap.size (w.alloc (.cells #[.int .i64 al, .int .i64 ex, .slice A t.length cap] 28)) w5 := d4.trans (hb5.mono d4.size)
    have b5 : Below w.heap.size w w5 := bel0.trans (d5.mono bel0.size)
    obtain ⟨hc5, hf5⟩ := bcell d5
    have k5 : w.heap.size < w5.heap.size := by have := d5.size; simp at this; omega
    clear hc4 hf4
    go_wp2_with fail
    refine (ref24_Single base of al ex A cap t _ hcap (SNH.out _ b5)).mono ?_
    rintro e w6 ⟨rfl, hb6⟩
    have d6 : Below (w.alloc (.cells #[.int .i64 al, .int .i64 ex, .slice A t.length cap] 28)).heap.size (w.alloc (.cells #[.int .i64 al, .int .i64 ex, .slice A t.length cap] 28)) w6 := d5.trans (hb6.mono d5.size)
    have b6 : Below w.heap.size w w6 := bel0.trans (d6.mono bel0.size)
    obtain ⟨hc6, hf6⟩ := bcell d6
    have k6 : w.heap.size < w6.heap.size := by have := d6.size; simp at this; omega
    clear hc5 hf5
    go_wp2_with fail
    refine (law24_awake _).mono ?_
    rintro e w7 ⟨rfl, hb7⟩
    have b7 : Below w.heap.size w w7 := b6.trans (hb7.mono b6.size)
    go_wp2_with fail
    go_ret
    exact ⟨rfl, b7⟩
end Go.Proofs.Ytkpfjabeppdjlaa
