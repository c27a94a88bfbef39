/- The walk of LeaveSums. -/
import Derived.Test.YtkbpdbfldijeeaaDoorFol
import Derived.Test.YtkbpdbfldijeeaaDoorR4
namespace Go.Proofs.YtkbpdbfldijeeaaDoor
open Go.RowKit Go.Sort Go.BigFrame

theorem fieldY (a b c : Int) (W : World) : (Instr.field 39 (.agg #[.int .i64 a, .int .i64 b, .int .i64 c]) 0).run Tryd.prog W = .ok (.int .i64 a) W := by
  first | (kernel_rfl; done) | (simp [Instr.field, asAgg, Tryd.underlying39, go_sem]; done)

set_option maxHeartbeats 2000000 in
theorem lw_Sums (yr ca ex un : Int) (l : List Mv) (A : Option Addr) (cap : Nat) (w : World) (hi : Ints un l) (ht : Tabs w) (hs : Sl encM 3 w w.heap.size A l) :
    Calls Tryd.prog 4 #[.agg #[.int .i64 yr, .int .i64 ca, .int .i64 ex], .int .i64 un, .slice A l.length cap] w fun e' w' => e' = .returned (.bool true) ∧ Below w.heap.size w w' := by
  have AW := Lib.hid (fun W (hT : Tabs W) => lv_awake W hT)
  obtain ⟨pb, hpb⟩ : ∃ x, w.heap.size = x := ⟨_, rfl⟩
  obtain ⟨w0, hw0⟩ : ∃ x, w.alloc (.cells #[.int .i64 yr, .int .i64 ca, .int .i64 ex] 23) = x := ⟨_, rfl⟩
  have g0 : Grows w w0 := hw0 ▸ .of_alloc _ _
  have s0 : pb < w0.heap.size := hw0 ▸ hpb ▸ size_new _ _
  have p0 : Bk pb 23 #[.int .i64 yr, .int .i64 ca, .int .i64 ex] w0 := hw0 ▸ hpb ▸ Bk.new w _ _
  have t0 := ht.grows g0
  have hs0 := (hs.grows g0 (Nat.le_refl _)).more g0.size
  have HW := Lib.hid hw0
  have HPB := Lib.hid hpb
  have FIN : Hid (∀ w2, Below w0.heap.size w0 w2 → Below w.heap.size w w2) := Lib.hid fun w2 h => bwTrans g0.below h g0.size
  have HF := Lib.hid (lv_Fold yr ca ex un l A cap w0 hi t0 hs0)
  have HP := Lib.hid p0
  have hlen := hi.len
  clear hw0 hpb hs hs0 p0
  by_cases h1 : 100 < l.length
  · go_enter Tryd.func4, Tryd.ntmps4
    go_wp2_with fail
    rw [HW.out]
    refine (AW.out _ t0).mono ?_
    rintro e' w2 ⟨rfl, hb⟩
    go_wp2
    go_ret
    exact ⟨rfl, FIN.out _ hb⟩
  have P0 : w0.cell? ⟨pb, 0, none⟩ = some (.int .i64 yr) := HP.out.cell 0
  have P1 : w0.cell? ⟨pb, 1, none⟩ = some (.int .i64 ca) := HP.out.cell 1
  have P2 : w0.cell? ⟨pb, 2, none⟩ = some (.int .i64 ex) := HP.out.cell 2
  by_cases h2 : chkV yr ca ex un l = 0
  · obtain ⟨N, hN, hsum⟩ := sums_of h2
    rw [h2] at HF
    obtain ⟨⟨g, t, e, k⟩, ha⟩ : ∃ a, accV yr ca ex un l = a := ⟨_, rfl⟩
    rw [ha] at HF
    obtain ⟨q1, q2, q3, q4, q5, q6, q7, q8, q9, q10⟩ := hsum g t e k ha
    have hr := right_of h2
    have hd := hr.day
    obtain ⟨y, m, dd, hok, hnum⟩ := Cal.ex (n := un + 25567) (by omega) (by omega)
    have hp := hr.plan
    unfold noPlan at hp
    have HE : yr < y ∨ e = 0 := Classical.or_iff_not_imp_left.2 fun h => q10 (by
      have h1 := hok.bd.2.1
      rw [hnum] at h1
      have := Cal.st_mono (show y + 1 ≤ yr + 1 by omega)
      omega)
    have HE := Lib.hid HE
    have E1 : (g != t + e + k) = false := by simp [q1]
    have HT := Lib.hid (fun W => r4_To y m dd un W hok (Lib.hid hnum))
    clear q1 q10 hnum ha hsum h2 hr hd hp
    go_enter Tryd.func4, Tryd.ntmps4
    go_wp2_with fail
    rw [HW.out, HPB.out]
    refine (HF.out).mono ?_
    rintro e' w1 ⟨rfl, hb1⟩
    have t1 := t0.below hb1 t0.size
    have p1 := (hb1.cell (p := ⟨pb, 0, none⟩) s0).trans P0
    have s1 : pb < w1.heap.size := Nat.lt_of_lt_of_le s0 hb1.size
    clear P0 P1 P2
    have q11 : ¬ e < 0 := by omega
    have q12 : ¬ t < 0 := by omega
    go_wp2_with fail
    obtain ⟨ab, hab⟩ : ∃ x, w1.heap.size = x := ⟨_, rfl⟩
    obtain ⟨wa, hwa⟩ : ∃ x, w1.alloc (.cells #[.int .i64 g, .int .i64 t, .int .i64 e, .int .i64 k] 28) = x := ⟨_, rfl⟩
    have ga : Grows w1 wa := hwa ▸ .of_alloc _ _
    have sa : ab < wa.heap.size := hwa ▸ hab ▸ size_new _ _
    have ca2 : wa.cell? ⟨ab, 2, none⟩ = some (.int .i64 e) := hwa ▸ hab ▸ new_cell _ _ _ _ rfl
    have pa := ga.cell s1 p1
    have ta := t1.grows ga
    have FIN2 : Hid (∀ w2, Below wa.heap.size wa w2 → Below w.heap.size w w2) := Lib.hid fun w2 h => FIN.out _ (bwTrans hb1 (bwTrans ga.below h ga.size) hb1.size)
    rw [hwa, hab]
    have c0 := cellB (Nat.lt_of_lt_of_le s1 ga.size) pa
    have c2 := cellB sa ca2
    clear hwa hab ca2 pa hb1 p1
    have hfl := fieldY y m dd
    by_cases hy : yr < y
    · have D1 : decide (yr < y) = true := decide_eq_true hy
      refine wp_region_quiet_below (by kernel_rfl) (by kernel_rfl) ?_
      repeat (go_big_quiet_step ((first | (with_reducible refine below_grows (HT.out _)) | (with_reducible refine below_any (AW.out _ (ta.below (BW.le _) ta.size))))))
      refine wpQuiet_nil ?_
      intro wb hw'
      obtain ⟨p, hw''⟩ := hw'
      have gb : Below wa.heap.size wa wb := by rw [hw'']; exact p.le
      clear hw'' p c0 c2
      go_wp2
      go_ret
      exact ⟨rfl, FIN2.out _ gb⟩
    · have D1 : decide (yr < y) = false := decide_eq_false hy
      obtain rfl : e = 0 := HE.out.resolve_left hy
      refine wp_region_quiet_below (by kernel_rfl) (by kernel_rfl) ?_
      repeat (go_big_quiet_step ((first | (with_reducible refine below_grows (HT.out _)) | (with_reducible refine below_any (AW.out _ (ta.below (BW.le _) ta.size))))))
      refine wpQuiet_nil ?_
      intro wb hw'
      obtain ⟨p, hw''⟩ := hw'
      have gb : Below wa.heap.size wa wb := by rw [hw'']; exact p.le
      clear hw'' p c0 c2
      go_wp2
      go_ret
      exact ⟨rfl, FIN2.out _ gb⟩
  · have h3 : (chkV yr ca ex un l != 0) = true := by simpa using h2
    generalize chkV yr ca ex un l = c at *
    generalize accV yr ca ex un l = a at *
    clear h2
    go_enter Tryd.func4, Tryd.ntmps4
    go_wp2_with fail
    rw [HW.out, HPB.out]
    refine (HF.out).mono ?_
    rintro e' w1 ⟨rfl, hb1⟩
    have t1 := t0.below hb1 t0.size
    go_wp2_with fail
    refine (AW.out _ (t1.grows (.of_alloc _ _))).mono ?_
    rintro e' w2 ⟨rfl, hb⟩
    have FB := Lib.hid (FIN.out _ (bwTrans hb1 (bwTrans (Grows.of_alloc w1 _).below hb (Grows.of_alloc w1 _).size) hb1.size))
    clear hb hb1
    go_wp2
    go_ret
    exact ⟨rfl, FB.out⟩
end Go.Proofs.YtkbpdbfldijeeaaDoor
