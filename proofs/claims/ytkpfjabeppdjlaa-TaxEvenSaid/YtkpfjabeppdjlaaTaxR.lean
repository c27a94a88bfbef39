/- The contract of the statements' own 'right'. -/
import Derived.Test.YtkpfjabeppdjlaaTaxP
namespace Go.Proofs.Ytkpfjabeppdjlaa
open Go.RowKit

def RightPost (t : List (Int × Int)) (al ex : Int) (w : World) (e : Ending) (w' : World) : Prop := ∃ b : Bool, e = .returned (.bool b) ∧ (b = true ↔ RightP t al ex) ∧ Below w.heap.size w w'
def lastV (t : List (Int × Int)) (k : Nat) : Int := if k = 0 then -1 else bF t (k - 1)

set_option maxRecDepth 100000 in
set_option maxHeartbeats 2000000 in
theorem law24_right (al ex : Int) (A : Option Addr) (cap : Nat) (t : List (Int × Int)) (w : World) (hcap : t.length ≤ 9223372036854775807) (hs : Sl encBand 2 w w.heap.size A t) :
    Calls Try.prog 11 #[cardV al ex A t.length cap] w (RightPost t al ex w) := by
  unfold cardV
  have hbel := (Below.refl w.heap.size w).alloc (Nat.le_refl _) (.cells #[.int .i64 al, .int .i64 ex, .slice A t.length cap] 28)
  have HSB := Lib.hid (hs.below hbel)
  clear hs
  go_enter Try.func11, Try.ntmps11
  go_wp2
  go_loopw [3, 9] (fun l i wr => ∃ k : Nat, k ≤ t.length ∧ i = .int .i64 k ∧ l = .int .i64 (lastV t k) ∧ (∀ j, j < k → GoodB t j) ∧ Below (w.alloc (.cells #[.int .i64 al, .int .i64 ex, .slice A t.length cap] 28)).heap.size (w.alloc (.cells #[.int .i64 al, .int .i64 ex, .slice A t.length cap] 28)) wr) (fun _ i _ => t.length - (intOf i).toNat)
  case atStart => exact ⟨0, Nat.zero_le _, rfl, rfl, fun _ h => absurd h (by omega), Below.refl _ _⟩
  case round =>
    obtain ⟨k, hk, rfl, rfl, hz, hb⟩ := hrel
    have HZ := Lib.hid hz
    clear hz
    have hwz : w.heap.size < wr.heap.size := by have := hb.size; simp at this; omega
    obtain ⟨hc1, hf1⟩ := bcell hb
    have HB := Lib.hid (hbel.trans (hb.mono hbel.size))
    have HBS := Lib.hid (Nat.le_trans hbel.size hb.size)
    have x0 : wr.cell? ⟨w.heap.size, 0, none⟩ = some (.int .i64 al) := (hc1 _ _ (by simp)).trans (by go_simp)
    have x1 : wr.cell? ⟨w.heap.size, 1, none⟩ = some (.int .i64 ex) := (hc1 _ _ (by simp)).trans (by go_simp)
    have x2 : wr.cell? ⟨w.heap.size, 2, none⟩ = some (.slice A t.length cap) := (hc1 _ _ (by simp)).trans (by go_simp)
    by_cases hlt : k < t.length
    · obtain ⟨b, off, rfl, hB, hc⟩ := HSB.out (by intro h; simp [h] at hlt)
      have hx1 := List.getElem?_eq_getElem hlt
      have h1 : bF t k = t[k].1 := by simp [bF, List.getD, hx1]
      have h2 : bR t k = t[k].2 := by simp [bR, List.getD, hx1]
      have C0 : wr.cell? ⟨b, off + k * 2, none⟩ = some (.int .i64 (bF t k)) := (hc1 _ _ (by simp; omega)).trans (by rw [h1]; simpa using hc k _ hx1 0 _ rfl)
      have C1 : wr.cell? ⟨b, off + k * 2 + 1, none⟩ = some (.int .i64 (bR t k)) := (hc1 _ _ (by simp; omega)).trans (by rw [h2]; simpa using hc k _ hx1 1 _ rfl)
      clear h1 h2 hx1 hc hc1 hf1
      have HG : Hid (GoodB t k ↔ lastV t k < bF t k ∧ bF t k ≤ 1099511627776 ∧ 0 ≤ bR t k ∧ bR t k ≤ 1000000) := Iff.rfl
      have HL : Hid (lastV t (k + 1) = bF t k) := by show _ = _; unfold lastV; rw [if_neg (by omega)]; rfl
      generalize lastV t k = l at *
      generalize bF t k = f at *
      generalize bR t k = r at *
      go_wp2
      all_goals first
        | (go_ret; exact ⟨false, rfl, ⟨(fun h => by cases h), fun h => absurd (HG.out.1 (h.good k hlt)) (by omega)⟩, HB.out.alloc (by have := HBS.out; omega) _⟩)
        | exact ⟨⟨k + 1, by omega, by go_num, by rw [HL.out], fun j hj => (Nat.lt_succ_iff_lt_or_eq.1 hj).elim (HZ.out j) (fun e => e ▸ HG.out.2 (by omega)), hb.alloc hb.size _⟩, by simp [intOf]; omega⟩
    · obtain rfl : k = t.length := by omega
      by_cases hn : t.length = 0
      · have hn1 : ((t.length : Int) == 0) = true := by simp [hn]
        have HN := Lib.hid hn
        have h64 : t.length ≤ 64 := by omega
        have fin : ∀ b : Bool, (b = true ↔ 0 ≤ al ∧ al ≤ 1099511627776 ∧ 0 ≤ ex ∧ ex ≤ 1099511627776) → (b = true ↔ RightP t al ex) := fun b hb => hb.trans ⟨fun h => ⟨HZ.out, .inl HN.out, by rw [HN.out]; omega, h.1, h.2.1, h.2.2.1, h.2.2.2⟩, fun h => ⟨h.al0, h.al1, h.ex0, h.ex1⟩⟩
        have FIN := Lib.hid fin
        clear hb hn hc1 hf1 fin
        go_wp2
        all_goals
          go_ret
          refine ⟨_, rfl, FIN.out _ ?_, HB.out⟩
          first | (rw [decide_eq_true_iff]; omega) | exact ⟨(fun h => by cases h), (fun h => by omega)⟩
      · obtain ⟨b, off, rfl, hB, hc⟩ := HSB.out (by intro h; simp [h] at hn)
        have h0 : 0 < t.length := by omega
        have hx1 := List.getElem?_eq_getElem h0
        have h1 : bF t 0 = t[0].1 := by simp [bF, List.getD, hx1]
        have C0 : wr.cell? ⟨b, off, none⟩ = some (.int .i64 (bF t 0)) := (hc1 _ _ (by simp; omega)).trans (by rw [h1]; simpa using hc 0 _ hx1 0 _ rfl)
        have hn1 : ((t.length : Int) == 0) = false := by rw [beq_eq_false_iff_ne]; omega
        have fin : ∀ b : Bool, (b = true ↔ bF t 0 = 0 ∧ t.length ≤ 64 ∧ 0 ≤ al ∧ al ≤ 1099511627776 ∧ 0 ≤ ex ∧ ex ≤ 1099511627776) → (b = true ↔ RightP t al ex) := fun b hb => hb.trans ⟨fun h => ⟨HZ.out, .inr h.1, h.2.1, h.2.2.1, h.2.2.2.1, h.2.2.2.2.1, h.2.2.2.2.2⟩, fun h => ⟨h.first.resolve_left (by omega), h.len, h.al0, h.al1, h.ex0, h.ex1⟩⟩
        have FIN := Lib.hid fin
        clear hb hn hc1 hf1 hx1 h1 hc fin
        generalize bF t 0 = f at *
        go_wp2
        all_goals
          go_ret
          refine ⟨_, rfl, FIN.out _ ?_, HB.out⟩
          first | (rw [decide_eq_true_iff]; omega) | exact ⟨(fun h => by cases h), (fun h => by omega)⟩
end Go.Proofs.Ytkpfjabeppdjlaa
