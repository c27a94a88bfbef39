/- Contracts of the calendar's functions, third part: AddMonths. -/
import Derived.Test.YtkbpdbfldijeeaaDoorCiw
namespace Go.Proofs.YtkbpdbfldijeeaaDoor
open Go.RowKit Go.Sort Go.BigFrame

theorem Cal.ok_min {y m d : Int} (h1 : 1900 ≤ y) (h2 : y ≤ 2199) (h3 : 1 ≤ m) (h4 : m ≤ 12) (h5 : 1 ≤ d) : Cal.Ok y m (min d (Cal.dim y m)) := by
  have := Cal.dim_bd y m
  exact ⟨h1, h2, h3, h4, by omega, by omega⟩

set_option maxHeartbeats 1000000 in
theorem civ_AddMonths (y m dd d n : Int) (w : World) (ht : Tab w) (ho : Cal.Ok y m dd) (hd : Hid (Cal.num y m dd = d + 25567)) (h0 : 0 ≤ 12 * (y - 1900) + m - 1 + n) (h1 : 12 * (y - 1900) + m - 1 + n < 3600) :
    Calls Tryd.prog 35 #[.int .i64 d, .int .i64 n] w fun e w' =>
      e = .returned (.int .i64 (Cal.num (1900 + (12 * (y - 1900) + m - 1 + n) / 12) ((12 * (y - 1900) + m - 1 + n) % 12 + 1) (min dd (Cal.dim (1900 + (12 * (y - 1900) + m - 1 + n) / 12) ((12 * (y - 1900) + m - 1 + n) % 12 + 1))) - 25567)) ∧ Grows w w' := by
  have hb := ho.bd
  rw [hd.out] at hb
  have hin : decide (-25567 ≤ d ∧ d ≤ 84005) = true := by simp; omega
  have b1 := ho.y1
  have b2 := ho.y2
  have b3 := ho.m1
  have b4 := ho.m2
  have b5 := ho.d1
  have b6 := ho.d2
  have b7 := Cal.dim_bd y m
  obtain ⟨k, hk⟩ : ∃ k, 12 * (y - 1900) + m - 1 + n = k := ⟨_, rfl⟩
  rw [hk] at h0 h1 ⊢
  have ok2 := Lib.hid (Cal.ok_min (y := 1900 + k / 12) (m := k % 12 + 1) (by omega) (by omega) (by omega) (by omega) b5)
  have md := Lib.hid (mdV_ok (y := 1900 + k / 12) (m := k % 12 + 1) (by omega) (by omega) (by omega) (by omega))
  have K := Lib.hid hk
  have n1 : -4000 ≤ n := by omega
  have n2 : n ≤ 4000 := by omega
  have t1 : ¬ n < -(12 * (y - 1900) + m - 1) := by omega
  have t2 : ¬ 3600 - (12 * (y - 1900) + m - 1) ≤ n := by omega
  clear hk
  go_enter Tryd.func35, Tryd.ntmps35
  go_wp2_with fail
  refine (civ_in d _ (by omega)).mono ?_
  rintro e w1 ⟨rfl, rfl⟩
  rw [hin]
  go_wp2_with fail
  refine (civ_To y m dd d _ ht ho hd).mono ?_
  rintro e wb ⟨rfl, gb⟩
  have tb := ht.grows gb
  go_wp2
  obtain ⟨B, hB⟩ : ∃ B, wb.heap.size = B := ⟨_, rfl⟩
  obtain ⟨wa, hwa⟩ : ∃ x, wb.alloc (.cells #[.int .i64 y, .int .i64 m, .int .i64 dd] 76 (0, 0)) = x := ⟨_, rfl⟩
  have ga : Grows wb wa := hwa ▸ .of_alloc _ _
  have sa : B < wa.heap.size := hwa ▸ hB ▸ size_new _ _
  have a2 : wa.cell? ⟨B, 2, none⟩ = some (.int .i64 dd) := hwa ▸ hB ▸ new_cell _ _ _ _ rfl
  have ta := tb.grows ga
  rw [hwa, hB, K.out]
  clear hwa hB
  have c2 := cellN sa a2
  clear a2
  have OfH : ∀ W : World, Tab W → Calls Tryd.prog 42 #[.agg #[.int .i64 (1900 + k / 12), .int .i64 (k % 12 + 1), .int .i64 (if mdV (1900 + k / 12) (k % 12 + 1) < dd then mdV (1900 + k / 12) (k % 12 + 1) else dd)]] W fun e w' =>
      e = .returned (.tuple #[.int .i64 (Cal.num (1900 + k / 12) (k % 12 + 1) (min dd (Cal.dim (1900 + k / 12) (k % 12 + 1))) - 25567), .int .i64 0]) ∧ Grows W w' := fun W hW => by
    rw [md.out, show (if Cal.dim (1900 + k / 12) (k % 12 + 1) < dd then Cal.dim (1900 + k / 12) (k % 12 + 1) else dd) = min dd (Cal.dim (1900 + k / 12) (k % 12 + 1)) by split <;> omega]
    exact civ_Of _ _ _ W hW ok2.out
  have OFH := Lib.hid OfH
  clear OfH
  refine wp_region_quiet_grown (by kernel_rfl) (by kernel_rfl) ?_
  repeat (go_big_quiet_step (first | (refine grown_same (civ_MonthDays (1900 + k / 12) (k % 12 + 1) _ (ta.grows (.of_grow _ _ _)))) | (refine grown_any (OFH.out _ (ta.grows (.of_grow _ _ _))))))
  refine wpQuiet_nil ?_
  intro wd hw'
  obtain ⟨p, hw''⟩ := hw'
  have gd : Grows wa wd := ⟨p.n, p.os, hw''⟩
  clear hw'' p c2
  go_wp2
  all_goals (go_ret; exact ⟨rfl, (gb.trans ga).trans gd⟩)
/-- Behind a year's first day. -/
theorem civ_AddJan (y n : Int) (w : World) (ht : Tab w) (h1 : 1900 ≤ y) (h2 : y ≤ 2199) (h3 : 0 ≤ n) (h4 : n ≤ 11) :
    Calls Tryd.prog 35 #[.int .i64 (Cal.st y - 25567), .int .i64 n] w fun e w' => e = .returned (.int .i64 (Cal.st y + Cal.cum y (n + 1) - 25567)) ∧ Grows w w' := by
  refine (civ_AddMonths y 1 1 (Cal.st y - 25567) n w ht (Cal.ok_jan h1 h2) (Lib.hid (by rw [Cal.num_jan]; omega)) (by omega) (by omega)).mono ?_
  rintro e w' ⟨rfl, hg⟩
  refine ⟨ret_i ?_, hg⟩
  have e1 : 1900 + (12 * (y - 1900) + 1 - 1 + n) / 12 = y := by omega
  have e2 : (12 * (y - 1900) + 1 - 1 + n) % 12 = n := by omega
  rw [e1, e2, show min 1 (Cal.dim y (n + 1)) = 1 by have := Cal.dim_bd y (n + 1); omega]
  unfold Cal.num; omega
end Go.Proofs.YtkbpdbfldijeeaaDoor
