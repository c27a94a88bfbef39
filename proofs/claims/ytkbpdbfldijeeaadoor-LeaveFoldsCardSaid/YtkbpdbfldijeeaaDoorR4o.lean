/- The reference's day of a year's first of January. -/
import Derived.Test.YtkbpdbfldijeeaaDoorLSu
namespace Go.Proofs.YtkbpdbfldijeeaaDoor
open Go.RowKit Go.Sort Go.BigFrame

set_option maxHeartbeats 1000000 in
set_option maxRecDepth 100000 in
theorem r4_Of1 (yr : Int) (w : World) (h1 : 1900 ≤ yr) (h2 : yr ≤ 2199) : Calls Tryd.prog 26 #[.agg #[.int .i64 yr, .int .i64 1, .int .i64 1]] w fun e w' => e = .returned (.tuple #[.int .i64 (Cal.st yr - 25567), .bool true]) ∧ Grows w w' := by
  obtain ⟨db, hdb⟩ : ∃ x, w.heap.size = x := ⟨_, rfl⟩
  obtain ⟨w0, hw0⟩ : ∃ x, w.alloc (.cells #[.int .i64 yr, .int .i64 1, .int .i64 1] 39) = x := ⟨_, rfl⟩
  have g0 : Grows w w0 := hw0 ▸ .of_alloc _ _
  have b0 : Bk db 39 #[.int .i64 yr, .int .i64 1, .int .i64 1] w0 := hw0 ▸ hdb ▸ Bk.new w _ _
  have hdm := Cal.dim_bd yr 1
  have HW := Lib.hid hw0
  have HDB := Lib.hid hdb
  have HB := Lib.hid b0
  have s0 := b0.lt
  have D0 : w0.cell? ⟨db, 0, none⟩ = some (.int .i64 yr) := b0.cell 0
  have D1 : w0.cell? ⟨db, 1, none⟩ = some (.int .i64 1) := b0.cell 1
  have D2 : w0.cell? ⟨db, 2, none⟩ = some (.int .i64 1) := b0.cell 2
  have c0 := cellN s0 D0
  have c1 := cellN s0 D1
  have c2 := cellN s0 D2
  have hnd : ¬ Cal.dim yr 1 < 1 := by omega
  clear hw0 hdb b0 D0 D1 D2
  go_enter Tryd.func26, Tryd.ntmps26
  go_wp2_with fail
  rw [HW.out, HDB.out]
  refine wp_region_quiet_grown (by kernel_rfl) (by kernel_rfl) ?_
  repeat (go_big_quiet_step (refine grown_any (r4_Month yr 1 _ h1 h2 (by omega) (by omega))))
  refine wpQuiet_nil ?_
  intro wb hw'
  obtain ⟨p, hw''⟩ := hw'
  have gb : Grows w0 wb := ⟨p.n, p.os, hw''⟩
  clear hw'' p c0 c1 c2
  go_wp2
  go_loopw [4, 5] (fun nv yv wr => ∃ y : Int, 1900 ≤ y ∧ y ≤ yr ∧ yv = .int .i64 y ∧ nv = .int .i64 (Cal.st y - 25567) ∧ Grows w0 wr) (fun _ yv _ => (yr - intOf yv).toNat)
  case atStart => exact ⟨1900, by omega, h1, rfl, by rw [Cal.st_1900]; rfl, gb⟩
  case round =>
    obtain ⟨y, hy1, hy2, rfl, rfl, hg⟩ := hrel
    have D0 : wr.cell? ⟨db, 0, none⟩ = some (.int .i64 yr) := hg.cell s0 (HB.out.cell 0)
    by_cases hlt : y < yr
    · have hs := Cal.st_succ y
      have hb := Cal.st_bd (y := y) (by omega) (by omega)
      have hb2 := Cal.st_bd (y := y + 1) (by omega) (by omega)
      go_wp2_with fail
      refine (r4_year y _ (by omega) (by omega)).mono ?_
      rintro e w1 ⟨rfl, rfl⟩
      go_wp2
      refine ⟨⟨y + 1, by omega, by omega, by go_num, by rw [hs]; go_num, hg⟩, by simp [intOf]; omega⟩
    · obtain rfl : y = yr := by omega
      have hb := Cal.st_bd (y := y) (by omega) (by omega)
      obtain ⟨wo, rfl⟩ : ∃ wo : World, wo = wr := ⟨_, rfl⟩
      have D1 : wo.cell? ⟨db, 1, none⟩ = some (.int .i64 1) := hg.cell s0 (HB.out.cell 1)
      have D2 : wo.cell? ⟨db, 2, none⟩ = some (.int .i64 1) := hg.cell s0 (HB.out.cell 2)
      go_wp2
      go_loopw [4, 6] (fun nv mv wr => nv = .int .i64 (Cal.st y - 25567) ∧ mv = .int .i64 1 ∧ wo = wr) (fun _ _ _ => 0)
      case atStart => exact ⟨rfl, rfl, rfl⟩
      case round =>
        obtain ⟨rfl, rfl, rfl⟩ := hrel
        go_wp2
        go_ret2
        refine ⟨by congr 4, g0.trans hg⟩
end Go.Proofs.YtkbpdbfldijeeaaDoor
