import Derived.Test.YtdkbbngedjiheaaGreatDoorUs2
import Derived.Test.YtdkbbngedjiheaaGreatDoorUi9
import Derived.Test.YtdkbbngedjiheaaGreatDoorUiA
import Derived.Test.YtdkbbngedjiheaaGreatDoorUiB
import Derived.Sort.Walk13a
import Derived.Sort.AssemblyPlain
/- The sort of numbers of 32 bits: pdqsort. -/
namespace Go.Proofs.YtdkbbngedjiheaaGreatDoor
open Go.RowKit Go.Sort

/-! ### The callees, from a world in which the row has been changed -/
section
variable {w W : World} {g off : Nat} {d e : Array Int}
theorem k_ins (cap a b : Nat) (hU : UG w g off e W) (hH : Holds eU w g off d) (hs : e.size = d.size) (hab : a ≤ b) (hb : b ≤ d.size) (hsz : d.size ≤ 1000000) :
    Calls Tryz.prog 131 #[.slice (some ⟨g, off, none⟩) d.size cap, .int .i64 a, .int .i64 b] W fun r w' => r = .returned (.tuple #[]) ∧ UG w g off (Sort.insertionSort ltInt e a b) w' := by
  have h := u_insertion g off cap a b e W (hU.holds hH hs) hab (by omega) (by omega)
  rw [hs] at h
  exact h.mono fun r w' ⟨h1, h2⟩ => ⟨h1, hU.trans (UG.ofRow h2) (insertionSort_holds swo_ltInt e a b hab (by omega)).1.1⟩
theorem k_heap (cap a b : Nat) (hU : UG w g off e W) (hH : Holds eU w g off d) (hs : e.size = d.size) (hab : a < b) (hb : b ≤ d.size) (hsz : d.size ≤ 1000000) :
    Calls Tryz.prog 132 #[.slice (some ⟨g, off, none⟩) d.size cap, .int .i64 a, .int .i64 b] W fun r w' => r = .returned (.tuple #[]) ∧ UG w g off (Sort.heapSort ltInt e a b) w' := by
  have h := u_heap g off cap a b e W W (hU.holds hH hs) e rfl ⟨0, (putRow_self _ _ _ _ _ (hU.holds hH hs)).symm⟩ hab (by omega) (by omega)
  rw [hs] at h
  exact h.mono fun r w' ⟨h1, h2⟩ => ⟨h1, hU.trans (UG.ofRow h2) (heapSort_holds swo_ltInt e a b (by omega) (by omega)).1.1⟩
theorem k_break (cap a b : Nat) (hU : UG w g off e W) (hH : Holds eU w g off d) (hs : e.size = d.size) (hg : g < w.heap.size) (hab : a ≤ b) (hb : b ≤ d.size) (hsz : d.size ≤ 1000000) :
    Calls Tryz.prog 133 #[.slice (some ⟨g, off, none⟩) d.size cap, .int .i64 a, .int .i64 b] W fun r w' => r = .returned (.tuple #[]) ∧ UG w g off (breakPatterns e a b) w' := by
  have h := u_break g off cap a b e W (hU.holds hH hs) (hU.lt hg) hab (by omega) (by omega)
  rw [hs] at h
  exact h.mono fun r w' ⟨h1, h2⟩ => ⟨h1, hU.trans h2 (breakPatterns_holds e a b hab (by omega)).1⟩
theorem k_rev (cap a b : Nat) (hU : UG w g off e W) (hH : Holds eU w g off d) (hs : e.size = d.size) (hab : a < b) (hb : b ≤ d.size) (hsz : d.size ≤ 1000000) :
    Calls Tryz.prog 135 #[.slice (some ⟨g, off, none⟩) d.size cap, .int .i64 a, .int .i64 b] W fun r w' => r = .returned (.tuple #[]) ∧ UG w g off (Sort.reverseRange e a b) w' := by
  have h := u_reverse g off cap a b e W (hU.holds hH hs) hab (by omega) (by omega)
  rw [hs] at h
  exact h.mono fun r w' ⟨h1, h2⟩ => ⟨h1, hU.trans (UG.ofRow h2) (reverseRange_holds e a b (by omega) (by omega)).1⟩
theorem k_pivot (cap a b : Nat) (hU : UG w g off e W) (hH : Holds eU w g off d) (hs : e.size = d.size) (hg : g < w.heap.size) (hab : a < b) (hb : b ≤ d.size) (hsz : d.size ≤ 1000000) :
    Calls Tryz.prog 134 #[.slice (some ⟨g, off, none⟩) d.size cap, .int .i64 a, .int .i64 b] W fun r w' => r = .returned (.tuple #[.int .i64 (choosePivot ltInt e a b).1, .int .i64 (hintCode (choosePivot ltInt e a b).2)]) ∧ UG w g off e w' := by
  have h := u_pivot g off cap a b e W (hU.holds hH hs) (hU.lt hg) hab (by omega) (by omega)
  rw [hs] at h
  exact h.mono fun r w' ⟨h1, h2⟩ => ⟨h1, hU.same h2 hg⟩
theorem k_partial (cap a b : Nat) (hU : UG w g off e W) (hH : Holds eU w g off d) (hs : e.size = d.size) (hab : a < b) (hb : b ≤ d.size) (hsz : d.size ≤ 1000000) (hp : (partialInsertionSort ltInt e a b).1.size = e.size) :
    Calls Tryz.prog 136 #[.slice (some ⟨g, off, none⟩) d.size cap, .int .i64 a, .int .i64 b] W fun r w' => r = .returned (.bool (partialInsertionSort ltInt e a b).2) ∧ UG w g off (partialInsertionSort ltInt e a b).1 w' := by
  have h := u_partial g off cap a b e W (hU.holds hH hs) hab (by omega) (by omega)
  rw [hs] at h
  exact h.mono fun r w' ⟨h1, h2⟩ => ⟨h1, hU.trans h2 hp⟩
theorem k_partEq (cap a b pivot : Nat) (hU : UG w g off e W) (hH : Holds eU w g off d) (hs : e.size = d.size) (hap : a ≤ pivot) (hpb : pivot < b) (hb : b ≤ d.size) (hsz : d.size ≤ 1000000) {mid : Nat} {f : Array Int} (hx : partitionEqual ltInt e a b pivot = (mid, f)) (hf : f.size = e.size) :
    Calls Tryz.prog 138 #[.slice (some ⟨g, off, none⟩) d.size cap, .int .i64 a, .int .i64 b, .int .i64 pivot] W fun r w' => r = .returned (.int .i64 mid) ∧ UG w g off f w' := by
  have h := u_partEq g off cap a b pivot e W (hU.holds hH hs) hap hpb (by omega) (by omega)
  rw [hs, hx] at h
  exact h.mono fun r w' ⟨h1, h2⟩ => ⟨h1, hU.trans h2 hf⟩
theorem k_part (cap a b pivot : Nat) (hU : UG w g off e W) (hH : Holds eU w g off d) (hs : e.size = d.size) (hap : a ≤ pivot) (hpb : pivot < b) (hb : b ≤ d.size) (hsz : d.size ≤ 1000000) {mid : Nat} {ap : Bool} {f : Array Int} (hx : partition ltInt e a b pivot = (mid, ap, f)) (hf : f.size = e.size) :
    Calls Tryz.prog 139 #[.slice (some ⟨g, off, none⟩) d.size cap, .int .i64 a, .int .i64 b, .int .i64 pivot] W fun r w' => r = .returned (.tuple #[.int .i64 mid, .bool ap]) ∧ UG w g off f w' := by
  have h := u_part g off cap a b pivot e W (hU.holds hH hs) hap hpb (by omega) (by omega)
  rw [hs, hx] at h
  exact h.mono fun r w' ⟨h1, h2⟩ => ⟨h1, hU.trans h2 hf⟩
end

theorem hint_two {h : Hint} (e : hintCode h = 2) : h = .decreasing := by cases h <;> simp [hintCode] at e ⊢
theorem eighths {x y p q : Nat} (h1 : q ≤ p) (h2 : y ≤ x) : decide (((x : Int) - (y : Int)) / 8 ≤ (p : Int) - (q : Int)) = decide (p - q ≥ (x - y) / 8) := decide_eq_decide.2 ⟨fun h => by omega, fun h => by omega⟩

/-- What the recursion knows of itself. -/
def PdqOk (N : Nat) : Prop := ∀ (g off cap a b limit : Nat) (d : Array Int) (w : World), b - a < N → Holds eU w g off d → g < w.heap.size → a ≤ b → b ≤ d.size → d.size ≤ 1000000 → limit ≤ 1000000 → Below ltInt a b d →
    Calls Tryz.prog 88 #[.slice (some ⟨g, off, none⟩) d.size cap, .int .i64 a, .int .i64 b, .int .i64 limit] w fun e w' => e = .returned (.tuple #[]) ∧ UG w g off (pdq ltInt d a b limit true true) w'
theorem k_pdq {N : Nat} (ih : PdqOk N) {w W : World} {g off : Nat} {d e : Array Int} (cap a b limit : Nat) (hU : UG w g off e W) (hH : Holds eU w g off d) (hs : e.size = d.size) (hg : g < w.heap.size) (hN : b - a < N) (hab : a ≤ b) (hb : b ≤ d.size) (hsz : d.size ≤ 1000000) (hl : limit ≤ 1000000) (hB : Below ltInt a b e) :
    Calls Tryz.prog 88 #[.slice (some ⟨g, off, none⟩) d.size cap, .int .i64 a, .int .i64 b, .int .i64 limit] W fun r w' => r = .returned (.tuple #[]) ∧ UG w g off (pdq ltInt e a b limit true true) w' := by
  have h := ih g off cap a b limit e W hN (hU.holds hH hs) (hU.lt hg) hab (by omega) (by omega) hl hB
  rw [hs] at h
  exact h.mono fun r w' ⟨h1, h2⟩ => ⟨h1, hU.trans h2 (pdq_sorts ltInt swo_ltInt e a b limit true true hab (by omega) hB).1.1⟩

set_option maxHeartbeats 16000000 in
set_option maxRecDepth 1000000 in
theorem pdq_step (N : Nat) (ih : PdqOk N) : PdqOk (N + 1) := by
  intro g off cap a b limit d w hN hH hg hab hb hsz hlimit hB0
  have HH := Lib.hid hH
  have HI := Lib.hid ih
  have HU0 := Lib.hid (UG.refl hH)
  have HB0 := Lib.hid hB0
  obtain ⟨R, hR⟩ : ∃ R, pdq ltInt d a b limit true true = R := ⟨_, rfl⟩
  have HR := Lib.hid hR
  rw [hR]
  clear hH ih hB0 hR
  go_enter Tryz.func88, Tryz.ntmps88
  go_wp2
  go_loopg [1, 2, 3, 8, 9] (b - a) (fun k s1 s2 s3 s8 s9 wr => ∃ (a' b' lim : Nat) (wb wp : Bool) (e : Array Int), s1 = .int .i64 a' ∧ s2 = .int .i64 b' ∧ s3 = .int .i64 lim ∧ s8 = .bool wb ∧ s9 = .bool wp ∧
    a' ≤ b' ∧ b' ≤ d.size ∧ b' - a' ≤ k ∧ k ≤ b - a ∧ lim ≤ limit ∧ e.size = d.size ∧ Hid (Below ltInt a' b' e) ∧ Hid (UG w g off e wr) ∧ Hid (pdq ltInt e a' b' lim wb wp = R))
  case atStart => exact ⟨a, b, limit, true, true, d, rfl, rfl, rfl, rfl, rfl, hab, hb, Nat.le_refl _, Nat.le_refl _, Nat.le_refl _, rfl, HB0, HU0, HR⟩
  case round =>
    clear HU0 HB0 HR
    obtain ⟨a', b', lim, wb, wp, e, rfl, rfl, rfl, rfl, rfl, hab', hb', hk, hkN, hlim, hse, HB, HU, HQ⟩ := hrel
    by_cases h12 : b' - a' ≤ 12
    · have hc := Lib.hid (k_ins cap a' b' HU.out HH.out hse hab' hb' hsz)
      have HF : Hid (Sort.insertionSort ltInt e a' b' = R) := Lib.hid (by rw [← HQ.out, pdq_small h12])
      have z12 : (b' : Int) - (a' : Int) ≤ 12 := by omega
      go_wp2_with fail
      refine hc.out.mono ?_
      rintro r w1 ⟨rfl, hw1⟩
      have HW := Lib.hid hw1
      clear hw1
      go_wp2_with fail
      (try simp only [Exit.inBlock, Exit.then])
      refine bodyPost_ret (results_none rfl _ _ _) rfl ?_
      exact ⟨rfl, by rw [← HF.out]; exact HW.out⟩
    · have z12 : ¬ (b' : Int) - (a' : Int) ≤ 12 := by omega
      by_cases hl0 : lim = 0
      · subst hl0
        have hc := Lib.hid (k_heap cap a' b' HU.out HH.out hse (by omega) hb' hsz)
        have HF : Hid (Sort.heapSort ltInt e a' b' = R) := Lib.hid (by rw [← HQ.out, pdq_heap h12 rfl])
        go_wp2_with fail
        refine hc.out.mono ?_
        rintro r w1 ⟨rfl, hw1⟩
        have HW := Lib.hid hw1
        clear hw1
        go_wp2_with fail
        (try simp only [Exit.inBlock, Exit.then])
        refine bodyPost_ret (results_none rfl _ _ _) rfl ?_
        exact ⟨rfl, by rw [← HF.out]; exact HW.out⟩
      · have zl0 : ((lim : Int) == 0) = false := by simp; omega
        obtain ⟨D, hD⟩ : ∃ D, rd ltInt e a' b' lim wb wp = D := ⟨_, rfl⟩
        obtain ⟨s1, B1, hc1, s2, B2, hpv, s3, B3⟩ := rd_facts (limit := lim) (wb := wb) (wp := wp) swo_ltInt partialInsertionSort_holds reverseRange_holds (show a' < b' by omega) (show b' ≤ e.size by omega) HB.out
        have hll : D.lim ≤ lim := by rw [← hD]; exact rd_lim_le
        have HBRK : Hid (wb = false → D.d1 = breakPatterns e a' b' ∧ D.lim = lim - 1) := Lib.hid fun h => by subst h; rw [← hD]; exact rd_false
        have HNBR : Hid (wb = true → D.d1 = e ∧ D.lim = lim) := Lib.hid fun h => by subst h; rw [← hD]; exact rd_true
        have HC : Hid (choosePivot ltInt D.d1 a' b' = D.c) := Lib.hid (by rw [← hD]; exact rd_c.symm)
        have HDEC : Hid (D.c.2 = .decreasing → D.d2 = reverseRange D.d1 a' b' ∧ D.pivot = (b' - 1) - (D.c.1 - a') ∧ D.hint = .increasing) := Lib.hid fun h => by rw [← hD] at h ⊢; exact rd_dec h
        have HNDE : Hid (D.c.2 ≠ .decreasing → D.d2 = D.d1 ∧ D.pivot = D.c.1 ∧ D.hint = D.c.2) := Lib.hid fun h => by rw [← hD] at h ⊢; exact rd_not h
        have HPY : Hid ((wb && wp && decide (D.hint = .increasing)) = true → D.pi = partialInsertionSort ltInt D.d2 a' b') := Lib.hid fun h => by rw [← hD] at h ⊢; exact rd_pi_yes h
        have HPN : Hid ((wb && wp && decide (D.hint = .increasing)) = false → D.pi = (D.d2, false)) := Lib.hid fun h => by rw [← hD] at h ⊢; exact rd_pi_no h
        have HDONE : Hid (D.pi.2 = true → D.pi.1 = R) := Lib.hid fun h => by rw [← HQ.out]; rw [← hD] at h ⊢; exact (pdq_done h12 hl0 h).symm
        have HEQ : Hid (∀ mid f, D.pi.2 = false → (decide (a' > 0) && !ltInt D.pi.1[a' - 1]! D.pi.1[D.pivot]!) = true → partitionEqual ltInt D.pi.1 a' b' D.pivot = (mid, f) → a' < mid ∧ mid ≤ b' → pdq ltInt f mid b' D.lim wb wp = R) := Lib.hid fun mid f h1 h2 h3 h4 => by
          rw [← HQ.out]; rw [← hD] at h1 h2 h3 ⊢
          rw [pdq_eq h12 hl0 h1 h2 (by rw [h3]; exact h4), h3]
        have HLE : Hid (∀ mid ap f, D.pi.2 = false → (decide (a' > 0) && !ltInt D.pi.1[a' - 1]! D.pi.1[D.pivot]!) = false → partition ltInt D.pi.1 a' b' D.pivot = (mid, ap, f) → a' ≤ mid ∧ mid < b' → mid - a' < b' - mid → pdq ltInt (pdq ltInt f a' mid D.lim true true) (mid + 1) b' D.lim (decide (mid - a' ≥ (b' - a') / 8)) ap = R) := Lib.hid fun mid ap f h1 h2 h3 h4 h5 => by
          rw [← HQ.out]; rw [← hD] at h1 h2 h3 ⊢
          rw [pdq_left h12 hl0 h1 h2 (by rw [h3]; exact h4) (by rw [h3]; exact h5), h3]
        have HRI : Hid (∀ mid ap f, D.pi.2 = false → (decide (a' > 0) && !ltInt D.pi.1[a' - 1]! D.pi.1[D.pivot]!) = false → partition ltInt D.pi.1 a' b' D.pivot = (mid, ap, f) → a' ≤ mid ∧ mid < b' → ¬ mid - a' < b' - mid → pdq ltInt (pdq ltInt f (mid + 1) b' D.lim true true) a' mid D.lim (decide (b' - mid ≥ (b' - a') / 8)) ap = R) := Lib.hid fun mid ap f h1 h2 h3 h4 h5 => by
          rw [← HQ.out]; rw [← hD] at h1 h2 h3 ⊢
          rw [pdq_right h12 hl0 h1 h2 (by rw [h3]; exact h4) (by rw [h3]; exact h5), h3]
        rw [hD] at s1 B1 hc1 s2 B2 hpv s3 B3
        have HB3 := Lib.hid B3
        clear hD B1 B2 B3 HQ HB
        obtain ⟨d1, l1, ⟨p0, h0⟩, d2, pv, hi, ⟨d3, pb⟩⟩ := D
        dsimp only at s1 hc1 s2 hpv s3 hll HBRK HNBR HC HDEC HNDE HPY HPN HDONE HEQ HLE HRI HB3
        have hs1 : d1.size = d.size := s1.trans hse
        have hs2 : d2.size = d.size := s2.trans hse
        have hs3 : d3.size = d.size := s3.trans hse
        have q0 : hintCode .unknown = 0 := rfl
        have q1 : hintCode .increasing = 1 := rfl
        have q2 : hintCode .decreasing = 2 := rfl
        clear s1 s2 s3
        go_upto_if 35 with fail
        go_cut [3] (fun s3 wc => s3 = .int .i64 l1 ∧ Hid (UG w g off d1 wc))
        case first =>
          cases wb
          · have EB := Lib.hid (HBRK.out rfl)
            clear HBRK HNBR
            have hc := Lib.hid (k_break cap a' b' HU.out HH.out hse hg hab' hb' hsz)
            go_wp2_with fail
            refine hc.out.mono ?_
            rintro r w1 ⟨rfl, hw1⟩
            have HW := Lib.hid hw1
            clear hw1
            go_wp2_with fail
            go_meet
            exact ⟨by rw [EB.out.2]; congr 1; omega, Lib.hid (by rw [EB.out.1]; exact HW.out)⟩
          · have EB := Lib.hid (HNBR.out rfl)
            clear HBRK HNBR
            go_wp2_with fail
            go_meet
            exact ⟨by rw [EB.out.2], Lib.hid (by rw [EB.out.1]; exact HU.out)⟩
        case rest =>
          obtain ⟨rfl, HU1⟩ := hcut
          clear HU HBRK HNBR
          have hc17 := Lib.hid (k_pivot cap a' b' HU1.out HH.out hs1 hg (by omega) hb' hsz)
          rw [HC.out] at hc17
          go_upto_if 50 with (go_at_call 134; refine hc17.out.mono ?_; rintro r w2 ⟨rfl, hw2⟩)
          have HU2 := Lib.hid hw2
          clear hw2 hc17 HU1 HC
          go_cut [11, 12] (fun s11 s12 wc => s11 = .int .i64 pv ∧ s12 = .int .i64 (hintCode hi) ∧ Hid (UG w g off d2 wc))
          case first =>
            by_cases hh : h0 = .decreasing
            · have HD3 := Lib.hid (HDEC.out hh)
              subst hh
              have hc18 := Lib.hid (k_rev cap a' b' HU2.out HH.out hs1 (by omega) hb' hsz)
              go_wp2_with fail
              refine hc18.out.mono ?_
              rintro r w3 ⟨rfl, hw3⟩
              have HW := Lib.hid hw3
              clear hw3
              go_wp2_with fail
              go_meet
              exact ⟨by rw [HD3.out.2.1]; congr 1; omega, by rw [HD3.out.2.2]; rfl, Lib.hid (by rw [HD3.out.1]; exact HW.out)⟩
            · have HD3 := Lib.hid (HNDE.out hh)
              have hcode : ¬ hintCode h0 = 2 := fun h => hh (hint_two h)
              have hcode2 : (hintCode h0 == 2) = false := by simp [hcode]
              go_wp2_with fail
              go_meet
              exact ⟨by rw [HD3.out.2.1], by rw [HD3.out.2.2], Lib.hid (by rw [HD3.out.1]; exact HU2.out)⟩
          case rest =>
            obtain ⟨rfl, rfl, HU3⟩ := hcut
            clear HU2 HDEC HNDE hc1
            obtain ⟨tt, htt⟩ : ∃ z, (wb && wp && decide (hi = .increasing)) = z := ⟨_, rfl⟩
            have HTT := Lib.hid htt
            clear htt
            go_upto_region 15 with fail
            go_cut [68] (fun s68 wx => s68 = .bool tt ∧ wx = wc)
            case first =>
              cases wb <;> cases wp <;> cases hi <;>
                (go_wp2_with fail
                 go_meet
                 exact ⟨by rw [← HTT.out]; rfl, rfl⟩)
            case rest =>
              obtain ⟨rfl, rfl⟩ := hcut
              go_upto_if 68 with fail
              go_cut [] (fun wx => pb = false ∧ Hid (UG w g off d3 wx))
              case first =>
                cases tt with
                | false =>
                  have EPI := Lib.hid (HPN.out HTT.out)
                  go_wp2_with fail
                  go_meet
                  exact ⟨congrArg Prod.snd EPI.out, Lib.hid (by rw [show d3 = d2 from congrArg Prod.fst EPI.out]; exact HU3.out)⟩
                | true =>
                  have epi := HPY.out HTT.out
                  have hc19 := k_partial cap a' b' HU3.out HH.out hs2 (by omega) hb' hsz (by rw [← epi]; exact hs3.trans hs2.symm)
                  rw [← epi] at hc19
                  have HC19 := Lib.hid hc19
                  clear epi hc19
                  cases pb with
                  | false =>
                    go_wp2_with fail
                    refine HC19.out.mono ?_
                    rintro r w4 ⟨rfl, hw4⟩
                    have HW := Lib.hid hw4
                    clear hw4
                    go_wp2_with fail
                    go_meet
                    exact ⟨trivial, HW⟩
                  | true =>
                    have HF := Lib.hid (HDONE.out rfl)
                    go_wp2_with fail
                    refine HC19.out.mono ?_
                    rintro r w4 ⟨rfl, hw4⟩
                    have HW := Lib.hid hw4
                    clear hw4
                    go_wp2_with fail
                    (try simp only [Exit.inBlock, Exit.then])
                    refine bodyPost_ret (results_none rfl _ _ _) rfl ?_
                    exact ⟨rfl, by rw [← HF.out]; exact HW.out⟩
              case rest =>
                obtain ⟨rfl, HU5⟩ := hcut
                clear HU3 HPY HPN HDONE HTT
                have HEQ2 := Lib.hid (fun mid f => HEQ.out mid f rfl)
                have HLE2 := Lib.hid (fun mid ap f => HLE.out mid ap f rfl)
                have HRI2 := Lib.hid (fun mid ap f => HRI.out mid ap f rfl)
                clear HEQ HLE HRI
                obtain ⟨ts, hts⟩ : ∃ z, (decide (a' > 0) && !ltInt d3[a' - 1]! d3[pv]!) = z := ⟨_, rfl⟩
                have HTS := Lib.hid hts
                rw [hts] at HEQ2 HLE2 HRI2
                clear hts
                go_upto_region 17 with fail
                go_cut [87] (fun s87 wx => s87 = .bool ts ∧ Hid (UG w g off d3 wx))
                case first =>
                  rcases Nat.eq_zero_or_pos a' with ha0 | ha0
                  · have b0 : decide ((a' : Int) > 0) = false := decide_eq_false (by omega)
                    have b1 : decide ((0 : Int) < (a' : Int)) = false := decide_eq_false (by omega)
                    have HT : Hid (ts = false) := Lib.hid (by rw [← HTS.out, show decide (a' > 0) = false from decide_eq_false (by omega)]; rfl)
                    go_quiet (fail)
                    go_wp2_with fail
                    go_meet
                    exact ⟨by rw [HT.out], Lib.hid (HU5.out.drewN nq)⟩
                  · have b0 : decide ((a' : Int) > 0) = true := decide_eq_true (by omega)
                    have b1 : decide ((0 : Int) < (a' : Int)) = true := decide_eq_true (by omega)
                    have c1 := HU5.out.cell HH.out hs3 (t := a' - 1) (by omega)
                    have c2 := HU5.out.cell HH.out hs3 (t := pv) (by omega)
                    obtain ⟨x, hx⟩ : ∃ x, d3[a' - 1]! = x := ⟨_, rfl⟩
                    obtain ⟨y, hy⟩ : ∃ y, d3[pv]! = y := ⟨_, rfl⟩
                    obtain ⟨lb, hlb⟩ : ∃ z, ltInt x y = z := ⟨_, rfl⟩
                    have HLS := Lib.hid (u_Less x y)
                    have HT : Hid (ts = !lb) := Lib.hid (by rw [← HTS.out, show decide (a' > 0) = true from decide_eq_true (by omega), hx, hy, hlb]; rfl)
                    rw [hx] at c1
                    rw [hy] at c2
                    rw [hlb] at HLS
                    have v1 : IntKind.i64.wrap ((a' : Int) - 1) = (a' : Int) - 1 := IntWalk.i64_in _ (by omega)
                    have v2 : ((a' : Int) - 1).toNat = a' - 1 := by omega
                    have w3 : (0 : Int) ≤ (a' : Int) - 1 := by omega
                    have w4 : (a' : Int) - 1 < (d.size : Int) := by omega
                    have w5 : (pv : Int) < (d.size : Int) := by omega
                    clear hx hy hlb
                    go_quiet (first | (go_at_call 137; refine Calls.quiet_of_same (HLS.out _)))
                    go_wp2_with fail
                    go_meet
                    exact ⟨by rw [HT.out], Lib.hid (HU5.out.drewN nq)⟩
                case rest =>
                  obtain ⟨rfl, HU6⟩ := hcut
                  clear HU5
                  cases ts with
                  | false =>
                    obtain ⟨mid, ap, f, hx⟩ : ∃ mid ap f, partition ltInt d3 a' b' pv = (mid, ap, f) := ⟨_, _, _, rfl⟩
                    obtain ⟨r1, r2, r3, r4, r5, r6, r7⟩ := round_part swo_ltInt (partition_holds _) hpv.1 hpv.2 (show b' ≤ d3.size by omega) HB3.out hx
                    have hc22 := Lib.hid (k_part cap a' b' pv HU6.out HH.out hs3 hpv.1 hpv.2 hb' hsz hx r3)
                    have hsf : f.size = d.size := r3.trans hs3
                    have HL2 := Lib.hid (HLE2.out mid ap f rfl hx ⟨r1, r2⟩)
                    have HR2 := Lib.hid (HRI2.out mid ap f rfl hx ⟨r1, r2⟩)
                    have R4 := Lib.hid r4
                    have R5 := Lib.hid r5
                    have R6 := Lib.hid r6
                    have R7 := Lib.hid r7
                    clear hx HTS HLE2 HRI2 HEQ2 r3 r4 r5 r6 r7
                    go_upto_if 113 with (go_at_call 139; refine hc22.out.mono ?_; rintro r w7 ⟨rfl, hw7⟩)
                    have HU7 := Lib.hid hw7
                    clear hw7 hc22 HU6
                    by_cases h4 : mid - a' < b' - mid
                    · have z4 : (mid : Int) - (a' : Int) < (b' : Int) - (mid : Int) := by omega
                      obtain ⟨pL, sL⟩ := pdq_sorts ltInt swo_ltInt f a' mid l1 true true (by omega) (by omega) R4.out
                      have HQ2 := Lib.hid (HL2.out h4)
                      have hih := Lib.hid (k_pdq HI.out cap a' mid l1 HU7.out HH.out hsf hg (by omega) (by omega) (by omega) hsz (by omega) R4.out)
                      have HBN := Lib.hid (R6.out _ pL sL).1
                      obtain ⟨fL, hfL⟩ : ∃ z, pdq ltInt f a' mid l1 true true = z := ⟨_, rfl⟩
                      rw [hfL] at hih HQ2 pL HBN
                      have hsL : fL.size = d.size := pL.1.trans hsf
                      clear hfL pL sL HL2 HR2 R4 R5 R6 R7
                      go_wp2_with fail
                      refine hih.out.mono ?_
                      rintro r w8 ⟨rfl, hw8⟩
                      have HU8 := Lib.hid hw8
                      clear hw8 hih HU7
                      go_wp2_with fail
                      go_roundg (b' - (mid + 1))
                      case measure => omega
                      case rel => exact ⟨mid + 1, b', l1, decide (mid - a' ≥ (b' - a') / 8), ap, fL, by go_num, rfl, rfl, congrArg Value.bool (eighths (by omega) (by omega)), rfl, by omega, by omega, Nat.le_refl _, by omega, by omega, hsL, HBN, HU8, HQ2⟩
                    · have z4 : ¬ (mid : Int) - (a' : Int) < (b' : Int) - (mid : Int) := by omega
                      obtain ⟨pL, sL⟩ := pdq_sorts ltInt swo_ltInt f (mid + 1) b' l1 true true (by omega) (by omega) R5.out
                      have HQ2 := Lib.hid (HR2.out h4)
                      have hih := Lib.hid (k_pdq HI.out cap (mid + 1) b' l1 HU7.out HH.out hsf hg (by omega) (by omega) (by omega) hsz (by omega) R5.out)
                      rw [show ((mid + 1 : Nat) : Int) = (mid : Int) + 1 by omega] at hih
                      have HBN := Lib.hid (R7.out _ pL sL).1
                      obtain ⟨fL, hfL⟩ : ∃ z, pdq ltInt f (mid + 1) b' l1 true true = z := ⟨_, rfl⟩
                      rw [hfL] at hih HQ2 pL HBN
                      have hsL : fL.size = d.size := pL.1.trans hsf
                      clear hfL pL sL HL2 HR2 R4 R5 R6 R7
                      go_wp2_with fail
                      refine hih.out.mono ?_
                      rintro r w8 ⟨rfl, hw8⟩
                      have HU8 := Lib.hid hw8
                      clear hw8 hih HU7
                      go_wp2_with fail
                      go_roundg (mid - a')
                      case measure => omega
                      case rel => exact ⟨a', mid, l1, decide (b' - mid ≥ (b' - a') / 8), ap, fL, rfl, rfl, rfl, congrArg Value.bool (eighths (by omega) (by omega)), rfl, by omega, by omega, Nat.le_refl _, by omega, by omega, hsL, HBN, HU8, HQ2⟩
                  | true =>
                    have hts2 := HTS.out
                    simp only [Bool.and_eq_true, decide_eq_true_eq, Bool.not_eq_true'] at hts2
                    obtain ⟨mid, f, hx⟩ : ∃ mid f, partitionEqual ltInt d3 a' b' pv = (mid, f) := ⟨_, _, rfl⟩
                    obtain ⟨r1, r2, r3, r4, _⟩ := round_eq swo_ltInt (partitionEqual_holds _) hts2.1 hpv.1 hpv.2 (show b' ≤ d3.size by omega) HB3.out hts2.2 hx
                    have hc21 := Lib.hid (k_partEq cap a' b' pv HU6.out HH.out hs3 hpv.1 hpv.2 hb' hsz hx r3)
                    have hsf : f.size = d.size := r3.trans hs3
                    have HQ2 := Lib.hid (HEQ2.out mid f rfl hx ⟨r1, r2⟩)
                    have HBN := Lib.hid r4
                    clear hx HTS HLE2 HRI2 HEQ2 r3 r4 hts2
                    go_wp2_with fail
                    refine hc21.out.mono ?_
                    rintro r w7 ⟨rfl, hw7⟩
                    have HU7 := Lib.hid hw7
                    clear hw7 hc21 HU6
                    go_wp2_with fail
                    go_roundg (b' - mid)
                    case measure => omega
                    case rel => exact ⟨mid, b', l1, wb, wp, f, rfl, rfl, rfl, rfl, rfl, r2, hb', Nat.le_refl _, by omega, by omega, hsf, HBN, HU7, HQ2⟩
theorem pdq_ok : ∀ N, PdqOk N
  | 0 => fun _ _ _ _ _ _ _ _ h => absurd h (Nat.not_lt_zero _)
  | N + 1 => pdq_step N (pdq_ok N)
end Go.Proofs.YtdkbbngedjiheaaGreatDoor
