import Derived.Test.YtdkbbngedjiheaaGreatDoorUs1
import Derived.Sort.WalkA6
import Derived.Deep.DeepCutAuto
import Derived.Deep.LoopGhost
/- The sort of numbers of 32 bits: the sort that gives up early. -/
namespace Go.Proofs.YtdkbbngedjiheaaGreatDoor
open Go.RowKit Go.Sort

theorem shiftDown_size : ∀ (j : Nat) (d : Array Int), (shiftDown ltInt j d).size = d.size
  | 0, d => rfl
  | j + 1, d => by
    rw [shiftDown]
    split
    · rfl
    · rw [shiftDown_size j, size_swp]
theorem shiftUp_size (b : Nat) : ∀ (n j : Nat) (d : Array Int), b - j ≤ n → (shiftUp ltInt b j d).size = d.size
  | 0, j, d, h => by rw [shiftUp, if_neg (by omega)]
  | n + 1, j, d, h => by
    rw [shiftUp]
    split
    · split
      · rfl
      · rw [shiftUp_size b n (j + 1) _ (by omega), size_swp]
    · rfl
theorem fixDown_size (a k : Nat) (d : Array Int) : (fixDown ltInt a k d).size = d.size := by
  unfold fixDown
  split
  · exact shiftDown_size _ _
  · rfl
theorem fixUp_size (b k : Nat) (d : Array Int) : (fixUp ltInt b k d).size = d.size := by
  unfold fixUp
  split
  · exact shiftUp_size _ _ _ _ (Nat.le_refl _)
  · rfl
def BoolUG (w : World) (g off : Nat) (r : Array Int × Bool) (e : Ending) (w' : World) : Prop := e = .returned (.bool r.2) ∧ UG w g off r.1 w'
theorem BoolUG.mk {w w' : World} {g off : Nat} {r : Array Int × Bool} {d : Array Int} {b : Bool} (h : r = (d, b)) (k : UG w g off d w') : BoolUG w g off r (.returned (.bool b)) w' := by subst h; exact ⟨rfl, k⟩

set_option maxHeartbeats 4000000 in
set_option maxRecDepth 100000 in
theorem u_partial (g off cap a b : Nat) (d : Array Int) (w : World) (hH : Holds eU w g off d) (hab : a < b) (hb : b ≤ d.size) (hsz : d.size ≤ 1000000) :
    Calls Tryz.prog 136 #[.slice (some ⟨g, off, none⟩) d.size cap, .int .i64 a, .int .i64 b] w (BoolUG w g off (partialInsertionSort ltInt d a b)) := by
  have HH := Lib.hid hH
  have HU0 := Lib.hid (UG.refl hH)
  obtain ⟨P, hP⟩ : ∃ P, partialInsertionSort ltInt d a b = P := ⟨_, rfl⟩
  have HP : Hid (partialIns ltInt a b 5 (a + 1) d = P) := Lib.hid hP
  rw [hP]
  clear hH hP
  go_enter Tryz.func136, Tryz.ntmps136
  go_wp2
  go_loopg [7, 8] 5 (fun n s7 s8 wr => ∃ (i s : Nat) (e : Array Int), s7 = .int .i64 i ∧ s8 = .int .i64 s ∧ s + n = 5 ∧ a < i ∧ i ≤ b ∧ e.size = d.size ∧ Hid (UG w g off e wr) ∧ Hid (partialIns ltInt a b (5 - s) i e = P))
  case atStart => exact ⟨a + 1, 0, d, by go_num, rfl, rfl, by omega, by omega, rfl, HU0, HP⟩
  case round =>
    obtain ⟨i, s, e, rfl, rfl, hsn, hai, hib, hse, HU, HO⟩ := hrel
    by_cases hs : s < 5
    · go_wp2
      go_loopw [7] (fun iv wr => ∃ k : Nat, iv = .int .i64 k ∧ i ≤ k ∧ k ≤ b ∧ Hid (UG w g off e wr) ∧ Hid (scanSorted ltInt e b k = scanSorted ltInt e b i)) (fun iv _ => b - (intOf iv).toNat)
      case atStart => exact ⟨i, rfl, Nat.le_refl _, hib, HU, Lib.hid rfl⟩
      case round =>
        clear HU
        obtain ⟨k, rfl, hik, hkb, HU, HS⟩ := hrel
        by_cases hlt : k < b
        · have c1 := HU.out.cell HH.out hse (t := k) (by omega)
          have c2 := HU.out.cell HH.out hse (t := k - 1) (by omega)
          have HLT : Hid (ltInt e[k]! e[k - 1]! = false → scanSorted ltInt e b (k + 1) = scanSorted ltInt e b i) := Lib.hid fun h => (scanSorted_go ltInt e b k hlt h).symm.trans HS.out
          have HLE : Hid (ltInt e[k]! e[k - 1]! = true → scanSorted ltInt e b i = k) := Lib.hid fun h => HS.out.symm.trans (scanSorted_stop ltInt e b k (.inr h))
          have HSW := Lib.hid (fun q => HU.out.swap q (j := k) (k := k - 1) (by omega) (by omega))
          obtain ⟨x, hx⟩ : ∃ x, e[k]! = x := ⟨_, rfl⟩
          obtain ⟨y, hy⟩ : ∃ y, e[k - 1]! = y := ⟨_, rfl⟩
          rw [hx] at c1 HLT HLE HSW
          rw [hy] at c2 HLT HLE HSW
          obtain ⟨lb, hlb⟩ : ∃ z, ltInt x y = z := ⟨_, rfl⟩
          have HLS := Lib.hid (u_Less x y)
          rw [hlb] at HLS HLT HLE
          have v1 : IntKind.i64.wrap ((k : Int) - 1) = (k : Int) - 1 := IntWalk.i64_in _ (by omega)
          have v2 : ((k : Int) - 1).toNat = k - 1 := by omega
          have w3 : (0 : Int) ≤ (k : Int) - 1 := by omega
          have w4 : (k : Int) - 1 < (d.size : Int) := by omega
          have w5 : (k : Int) < (d.size : Int) := by omega
          have b1 : decide ((k : Int) < (b : Int)) = true := decide_eq_true (by omega)
          have hka : a < k := by omega
          clear hx hy hlb HS
          go_wp2_with fail
          go_quiet (first | (go_at_call 137; refine Calls.quiet_of_same (HLS.out _)))
          cases lb with
          | false =>
            have HN := Lib.hid (HLT.out rfl)
            clear HLT HLE
            go_wp2
            exact ⟨⟨k + 1, by go_num, by omega, by omega, Lib.hid (HU.out.drewN nq), HN⟩, by simp [intOf]; omega⟩
          | true =>
            have HK := Lib.hid (HLE.out rfl)
            have b2 : ((k : Int) == (b : Int)) = false := by simp; omega
            clear HLT HLE HLS
            by_cases h50 : b - a < 50
            · have HR : Hid (P = (e, false)) := Lib.hid (by rw [← HO.out, pi_short ltInt a b s i e hs (by rw [HK.out]; omega) h50])
              clear c1 c2 HSW
              go_wp2
              go_ret
              exact BoolUG.mk HR.out (HU.out.drewN nq)
            · have HG : Hid (partialIns ltInt a b (5 - (s + 1)) k (fixUp ltInt b k (fixDown ltInt a k (swp e k (k - 1)))) = P) := Lib.hid (by rw [← HO.out, pi_go ltInt a b s i k e hs HK.out (by omega) h50])
              have f1 := HU.out.frozen HH.out hse (t := k) (by omega)
              have f2 := HU.out.frozen HH.out hse (t := k - 1) (by omega)
              have hne : ¬ off + k = off + (k - 1) := by omega
              have z50 : ¬ ((b : Int) - (a : Int)) < 50 := by omega
              obtain ⟨e1, he1⟩ : ∃ z, swp e k (k - 1) = z := ⟨_, rfl⟩
              have hs1 : e1.size = d.size := by rw [← he1, size_swp]; exact hse
              rw [he1] at HSW HG
              obtain ⟨e2, he2⟩ : ∃ z, fixDown ltInt a k e1 = z := ⟨_, rfl⟩
              have hs2 : e2.size = d.size := by rw [← he2, fixDown_size]; exact hs1
              have HE2 := Lib.hid he2
              obtain ⟨e3, he3⟩ : ∃ z, fixUp ltInt b k e2 = z := ⟨_, rfl⟩
              have hs3 : e3.size = d.size := by rw [← he3, fixUp_size]; exact hs2
              have HE3 := Lib.hid he3
              rw [he2, he3] at HG
              clear he1 he2 he3 HO HK
              go_wp2_with fail
              go_region
              go_upto_if 61 with fail
              have HU1 : Hid (UG w g off e1 _) := Lib.hid (HSW.out (nq + 1))
              clear HSW c1 c2 f1 f2 HU
              go_cut [9] (fun s9 wc => Hid (UG w g off e2 wc))
              case first =>
                by_cases hk2 : k - a ≥ 2
                · have z2 : (2 : Int) ≤ (k : Int) - (a : Int) := by omega
                  go_wp2
                  go_loopw [9] (fun jv wr => ∃ (j : Nat) (f : Array Int), jv = .int .i64 j ∧ j ≤ k - 1 ∧ f.size = d.size ∧ Hid (UG w g off f wr) ∧ Hid (shiftDown ltInt j f = e2)) (fun jv _ => (intOf jv).toNat)
                  case atStart => exact ⟨k - 1, e1, by congr 1; omega, Nat.le_refl _, hs1, HU1, Lib.hid (by rw [← HE2.out]; unfold fixDown; rw [if_pos hk2])⟩
                  case round =>
                    clear HU1
                    obtain ⟨j, f, rfl, hjk, hsf, HF, HD⟩ := hrel
                    by_cases hj : 1 ≤ j
                    · have c1 := HF.out.cell HH.out hsf (t := j) (by omega)
                      have c2 := HF.out.cell HH.out hsf (t := j - 1) (by omega)
                      have f1 := HF.out.frozen HH.out hsf (t := j) (by omega)
                      have f2 := HF.out.frozen HH.out hsf (t := j - 1) (by omega)
                      have HSW := Lib.hid (fun q => HF.out.swap q (j := j) (k := j - 1) (by omega) (by omega))
                      have HGO : Hid (ltInt f[j]! f[j - 1]! = true → shiftDown ltInt (j - 1) (swp f j (j - 1)) = e2) := Lib.hid fun h => by rw [← HD.out, shiftDown_go ltInt j f hj h]
                      have HST : Hid (ltInt f[j]! f[j - 1]! = false → f = e2) := Lib.hid fun h => by rw [← HD.out, shiftDown_stop ltInt j f (.inr h)]
                      obtain ⟨x, hx⟩ : ∃ x, f[j]! = x := ⟨_, rfl⟩
                      obtain ⟨y, hy⟩ : ∃ y, f[j - 1]! = y := ⟨_, rfl⟩
                      rw [hx] at c1 HSW HGO HST
                      rw [hy] at c2 HSW HGO HST
                      obtain ⟨lb, hlb⟩ : ∃ z, ltInt x y = z := ⟨_, rfl⟩
                      have HLS := Lib.hid (u_Less x y)
                      rw [hlb] at HLS HGO HST
                      have v1 : IntKind.i64.wrap ((j : Int) - 1) = (j : Int) - 1 := IntWalk.i64_in _ (by omega)
                      have v2 : ((j : Int) - 1).toNat = j - 1 := by omega
                      have w3 : (0 : Int) ≤ (j : Int) - 1 := by omega
                      have w4 : (j : Int) - 1 < (d.size : Int) := by omega
                      have w5 : (j : Int) < (d.size : Int) := by omega
                      have hne : ¬ off + j = off + (j - 1) := by omega
                      clear hx hy hlb HD
                      go_wp2_with fail
                      go_quiet (first | (go_at_call 137; refine Calls.quiet_of_same (HLS.out _)))
                      cases lb with
                      | true =>
                        have HN := Lib.hid (HGO.out rfl)
                        clear HGO HST HLS
                        go_wp2_with fail
                        go_region
                        all_goals go_wp2
                        all_goals exact ⟨⟨j - 1, swp f j (j - 1), by congr 1; omega, by omega, by rw [size_swp]; exact hsf, Lib.hid (HSW.out (nq + 1)), HN⟩, by simp [intOf]; omega⟩
                      | false =>
                        have HN := Lib.hid (HST.out rfl)
                        clear HGO HST HLS HSW c1 c2 f1 f2
                        go_wp2_with fail
                        go_meet
                        exact Lib.hid (by rw [← HN.out]; exact HF.out.drewN nq)
                    · have HN : Hid (f = e2) := Lib.hid (by rw [← HD.out, shiftDown_stop ltInt j f (.inl (by omega))])
                      have w6 : ¬ (1 : Int) ≤ (j : Int) := by omega
                      go_wp2_with fail
                      go_meet
                      exact Lib.hid (by rw [← HN.out]; exact HF.out)
                · have z2 : ¬ (2 : Int) ≤ (k : Int) - (a : Int) := by omega
                  have HN : Hid (e1 = e2) := Lib.hid (by rw [← HE2.out]; unfold fixDown; rw [if_neg hk2])
                  go_wp2_with fail
                  go_meet
                  exact Lib.hid (by rw [← HN.out]; exact HU1.out)
              case rest =>
                have HU2 := hcut
                clear hcut HU1
                by_cases hk2 : b - k ≥ 2
                · have z2 : (2 : Int) ≤ (b : Int) - (k : Int) := by omega
                  go_wp2
                  go_loopw [10] (fun jv wr => ∃ (j : Nat) (f : Array Int), jv = .int .i64 j ∧ k + 1 ≤ j ∧ j ≤ b ∧ f.size = d.size ∧ Hid (UG w g off f wr) ∧ Hid (shiftUp ltInt b j f = e3)) (fun jv _ => b - (intOf jv).toNat)
                  case atStart => exact ⟨k + 1, e2, by go_num, Nat.le_refl _, by omega, hs2, HU2, Lib.hid (by rw [← HE3.out]; unfold fixUp; rw [if_pos hk2])⟩
                  case round =>
                    clear HU2
                    obtain ⟨j, f, rfl, hkj, hjb, hsf, HF, HD⟩ := hrel
                    by_cases hj : j < b
                    · have c1 := HF.out.cell HH.out hsf (t := j) (by omega)
                      have c2 := HF.out.cell HH.out hsf (t := j - 1) (by omega)
                      have f1 := HF.out.frozen HH.out hsf (t := j) (by omega)
                      have f2 := HF.out.frozen HH.out hsf (t := j - 1) (by omega)
                      have HSW := Lib.hid (fun q => HF.out.swap q (j := j) (k := j - 1) (by omega) (by omega))
                      have HGO : Hid (ltInt f[j]! f[j - 1]! = true → shiftUp ltInt b (j + 1) (swp f j (j - 1)) = e3) := Lib.hid fun h => by rw [← HD.out, shiftUp_go ltInt b j f hj h]
                      have HST : Hid (ltInt f[j]! f[j - 1]! = false → f = e3) := Lib.hid fun h => by rw [← HD.out, shiftUp_stop ltInt b j f (.inr h)]
                      obtain ⟨x, hx⟩ : ∃ x, f[j]! = x := ⟨_, rfl⟩
                      obtain ⟨y, hy⟩ : ∃ y, f[j - 1]! = y := ⟨_, rfl⟩
                      rw [hx] at c1 HSW HGO HST
                      rw [hy] at c2 HSW HGO HST
                      obtain ⟨lb, hlb⟩ : ∃ z, ltInt x y = z := ⟨_, rfl⟩
                      have HLS := Lib.hid (u_Less x y)
                      rw [hlb] at HLS HGO HST
                      have v1 : IntKind.i64.wrap ((j : Int) - 1) = (j : Int) - 1 := IntWalk.i64_in _ (by omega)
                      have v2 : ((j : Int) - 1).toNat = j - 1 := by omega
                      have w3 : (0 : Int) ≤ (j : Int) - 1 := by omega
                      have w4 : (j : Int) - 1 < (d.size : Int) := by omega
                      have w5 : (j : Int) < (d.size : Int) := by omega
                      have hne : ¬ off + j = off + (j - 1) := by omega
                      clear hx hy hlb HD
                      go_wp2_with fail
                      go_quiet (first | (go_at_call 137; refine Calls.quiet_of_same (HLS.out _)))
                      cases lb with
                      | true =>
                        have HN := Lib.hid (HGO.out rfl)
                        clear HGO HST HLS
                        go_wp2_with fail
                        go_region
                        all_goals go_wp2
                        all_goals exact ⟨⟨j + 1, swp f j (j - 1), by go_num, by omega, by omega, by rw [size_swp]; exact hsf, Lib.hid (HSW.out (nq + 1)), HN⟩, by simp [intOf]; omega⟩
                      | false =>
                        have HN := Lib.hid (HST.out rfl)
                        clear HGO HST HLS HSW c1 c2 f1 f2
                        go_wp2
                        go_roundg (5 - (s + 1))
                        case measure => omega
                        case rel => exact ⟨k, s + 1, e3, rfl, by go_num, by omega, by omega, by omega, hs3, Lib.hid (by rw [← HN.out]; exact HF.out.drewN nq), HG⟩
                    · have HN : Hid (f = e3) := Lib.hid (by rw [← HD.out, shiftUp_stop ltInt b j f (.inl (by omega))])
                      have w6 : ¬ (j : Int) < (b : Int) := by omega
                      go_wp2
                      go_roundg (5 - (s + 1))
                      case measure => omega
                      case rel => exact ⟨k, s + 1, e3, rfl, by go_num, by omega, by omega, by omega, hs3, Lib.hid (by rw [← HN.out]; exact HF.out), HG⟩
                · have z2 : ¬ (2 : Int) ≤ (b : Int) - (k : Int) := by omega
                  have HN : Hid (e2 = e3) := Lib.hid (by rw [← HE3.out]; unfold fixUp; rw [if_neg hk2])
                  go_wp2
                  go_roundg (5 - (s + 1))
                  case measure => omega
                  case rel => exact ⟨k, s + 1, e3, rfl, by go_num, by omega, by omega, by omega, hs3, Lib.hid (by rw [← HN.out]; exact HU2.out), HG⟩
        · obtain rfl : k = b := by omega
          have HR : Hid (P = (e, true)) := Lib.hid (by rw [← HO.out, pi_true ltInt a k s i e hs (by rw [← HS.out, scanSorted_stop ltInt e k k (.inl (by omega))])])
          have b1 : decide ((k : Int) < (k : Int)) = false := decide_eq_false (by omega)
          go_wp2_with fail
          go_quiet (fail)
          go_wp2
          go_ret
          exact BoolUG.mk HR.out (HU.out.drewN nq)
    · obtain rfl : s = 5 := by omega
      have HR : Hid (P = (e, false)) := Lib.hid (by rw [← HO.out]; rfl)
      go_wp2
      go_ret
      exact BoolUG.mk HR.out HU.out
end Go.Proofs.YtdkbbngedjiheaaGreatDoor
