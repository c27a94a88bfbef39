import Derived.Test.YtmngghglcgmkeaaGreatDoorAby
/- law18.AbsentSums. -/
namespace Go.Proofs.YtmngghglcgmkeaaGreatDoor
open Go.RowKit Go.Sort

/-- What 'long' answers. -/
def LongR (F U n : Int) (w : World) (e : Ending) (w' : World) : Prop := ∃ b, e = .returned (.bool b) ∧ (b = false → -1099511627776 ≤ F ∧ F ≤ 1099511627776 ∧ U ≤ 2199023255552 ∧ U - F ≤ n) ∧ Below w.heap.size w w'
theorem LongR.of {F U n : Int} {w w' : World} {e : Ending} (b : Bool) (he : e = .returned (.bool b)) (h : b = false → -1099511627776 ≤ F ∧ F ≤ 1099511627776 ∧ U ≤ 2199023255552 ∧ U - F ≤ n) (hb : Below w.heap.size w w') : LongR F U n w e w' := ⟨b, he, h, hb⟩
set_option maxHeartbeats 2000000 in
theorem la_long (F U n : Int) (w : World) (hF : -9223372036854775808 ≤ F ∧ F ≤ 9223372036854775807) (hU : -9223372036854775808 ≤ U ∧ U ≤ 9223372036854775807) (hn : 0 ≤ n ∧ n ≤ 1000000) :
    Calls Tryz.prog 7 #[.agg #[.int .i64 F, .int .i64 U], .int .i64 n] w (LongR F U n w) := by
  obtain ⟨sb, hsb⟩ : ∃ z, w.heap.size = z := ⟨_, rfl⟩
  obtain ⟨w2, hw2⟩ : ∃ z, w.alloc (.cells #[.int .i64 F, .int .i64 U] 28) = z := ⟨_, rfl⟩
  have hk : Bk sb 28 #[.int .i64 F, .int .i64 U] w2 := by rw [← hw2, ← hsb]; exact Bk.new _ _ _
  have HB2 : Hid (Below w.heap.size w w2) := Lib.hid (by rw [← hw2]; exact bAlloc _ _)
  have S0 : w2.cell? ⟨sb, 0, none⟩ = some (.int .i64 F) := hk.cell 0
  have S1 : w2.cell? ⟨sb, 1, none⟩ = some (.int .i64 U) := hk.cell 1
  have HE := Lib.hid (And.intro hsb hw2)
  clear hsb hw2 hk
  by_cases h1 : F < -1099511627776
  · go_enter Tryz.func7, Tryz.ntmps7
    go_upto_region 1 with fail
    rw [HE.out.1, HE.out.2]
    clear HE
    go_wp2
    go_ret
    exact LongR.of true rfl (fun e => by simp at e) HB2.out
  by_cases h2 : 1099511627776 < F
  · go_enter Tryz.func7, Tryz.ntmps7
    go_upto_region 1 with fail
    rw [HE.out.1, HE.out.2]
    clear HE
    go_wp2
    go_ret
    exact LongR.of true rfl (fun e => by simp at e) HB2.out
  by_cases h3 : 2199023255552 < U
  · go_enter Tryz.func7, Tryz.ntmps7
    go_upto_region 1 with fail
    rw [HE.out.1, HE.out.2]
    clear HE
    go_wp2
    go_ret
    exact LongR.of true rfl (fun e => by simp at e) HB2.out
  have HV : Hid (wrap64 (U - F) ≤ n → U - F ≤ n) := Lib.hid fun hz => by
    by_cases hin : -9223372036854775808 ≤ U - F
    · unfold wrap64 at hz
      omega
    · unfold wrap64 at hz
      omega
  obtain ⟨z, hz⟩ : ∃ z, wrap64 (U - F) = z := ⟨_, rfl⟩
  have HZ := Lib.hid hz
  rw [hz] at HV
  clear hz
  by_cases h4 : n < z
  · go_enter Tryz.func7, Tryz.ntmps7
    go_upto_region 1 with fail
    rw [HE.out.1, HE.out.2]
    clear HE
    go_wp2
    go_ret
    exact LongR.of _ rfl (fun e => by
      have e2 := of_decide_eq_false e
      have := HZ.out
      omega) HB2.out
  · have HW : Hid (-1099511627776 ≤ F ∧ F ≤ 1099511627776 ∧ U ≤ 2199023255552 ∧ U - F ≤ n) := Lib.hid ⟨by omega, by omega, by omega, HV.out (by omega)⟩
    go_enter Tryz.func7, Tryz.ntmps7
    go_upto_region 1 with fail
    rw [HE.out.1, HE.out.2]
    clear HE
    go_wp2
    go_ret
    exact LongR.of _ rfl (fun _ => HW.out) HB2.out
end Go.Proofs.YtmngghglcgmkeaaGreatDoor
