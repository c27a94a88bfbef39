/- Merged from: Ui9 UiA UiB UiC. -/
import Derived.Test.YtgheloooibafcaaGreatDoorUs1
import Derived.Sort.WalkA6
import Derived.Deep.DeepCutAuto
import Derived.Deep.LoopGhost
import Derived.Sort.WalkC4
import Derived.Deep.CutBlock
import Derived.Test.YtgheloooibafcaaGreatDoorUs2
import Derived.Sort.Walk13a
import Derived.Sort.AssemblyPlain
namespace Go.Proofs.YtgheloooibafcaaGreatDoor
open Go.RowKit Go.Sort

theorem shiftDown_size : ∀ (j : Nat) (d : Array Int), (shiftDown ltInt j d).size = d.size
  | 0, d => rfl
  | j + 1, d => by
    rw [shiftDown]
    split
    · rfl
    · rw [shiftDown_size j, size_swp]
theorem shiftUp_size (b : Nat) : ∀ (n j : Nat) (d : Array Int), b - j ≤ n → (shiftUp ltInt b j d).size = d.size
  | 0, j, d, h => by rw [shiftUp, if_neg (by omega)]
  | n + 1, j, d, h => by
    rw [shiftUp]
    split
    · split
      · rfl
      · rw [shiftUp_size b n (j + 1) _ (by omega), size_swp]
    · rfl
theorem fixDown_size (a k : Nat) (d : Array Int) : (fixDown ltInt a k d).size = d.size := by
  unfold fixDown
  split
  · exact shiftDown_size _ _
  · rfl
theorem fixUp_size (b k : Nat) (d : Array Int) : (fixUp ltInt b k d).size = d.size := by
  unfold fixUp
  split
  · exact shiftUp_size _ _ _ _ (Nat.le_refl _)
  · rfl
def BoolUG (w : World) (g off : Nat) (r : Array Int × Bool) (e : Ending) (w' : World) : Prop := e = .returned (.bool r.2) ∧ UG w g off r.1 w'
theorem BoolUG.mk {w w' : World} {g off : Nat} {r : Array Int × Bool} {d : Array Int} {b : Bool} (h : r = (d, b)) (k : UG w g off d w') : BoolUG w g off r (.returned (.bool b)) w' := by subst h; exact ⟨rfl, k⟩

set_option maxHeartbeats 4000000 in
set_option maxRecDepth 100000 in
theorem u_partial (g off cap a b : Nat) (d : Array Int) (w : World) (hH : Holds eU w g off d) (hab : a < b) (hb : b ≤ d.size) (hsz : d.size ≤ 1000000) :
    Calls Tryz.prog 130 #[.slice (some ⟨g, off, none⟩) d.size cap, .int .i64 a, .int .i64 b] w (BoolUG w g off (partialInsertionSort ltInt d a b)) := by
  have HH := Lib.hid hH
  have HU0 := Lib.hid (UG.refl hH)
  obtain ⟨P, hP⟩ : ∃ P, partialInsertionSort ltInt d a b = P := ⟨_, rfl⟩
  have HP : Hid (partialIns ltInt a b 5 (a + 1) d = P) := Lib.hid hP
  rw [hP]
  clear hH hP
  go_enter Tryz.func130, Tryz.ntmps130
  go_wp2
  go_loopg [7, 8] 5 (fun n s7 s8 wr => ∃ (i s : Nat) (e : Array Int), s7 = .int .i64 i ∧ s8 = .int .i64 s ∧ s + n = 5 ∧ a < i ∧ i ≤ b ∧ e.size = d.size ∧ Hid (UG w g off e wr) ∧ Hid (partialIns ltInt a b (5 - s) i e = P))
  case atStart => exact ⟨a + 1, 0, d, by go_num, rfl, rfl, by omega, by omega, rfl, HU0, HP⟩
  case round =>
    obtain ⟨i, s, e, rfl, rfl, hsn, hai, hib, hse, HU, HO⟩ := hrel
    by_cases hs : s < 5
    · go_wp2
      go_loopw [7] (fun iv wr => ∃ k : Nat, iv = .int .i64 k ∧ i ≤ k ∧ k ≤ b ∧ Hid (UG w g off e wr) ∧ Hid (scanSorted ltInt e b k = scanSorted ltInt e b i)) (fun iv _ => b - (intOf iv).toNat)
      case atStart => exact ⟨i, rfl, Nat.le_refl _, hib, HU, Lib.hid rfl⟩
      case round =>
        clear HU
        obtain ⟨k, rfl, hik, hkb, HU, HS⟩ := hrel
        by_cases hlt : k < b
        · have c1 := HU.out.cell HH.out hse (t := k) (by omega)
          have c2 := HU.out.cell HH.out hse (t := k - 1) (by omega)
          have HLT : Hid (ltInt e[k]! e[k - 1]! = false → scanSorted ltInt e b (k + 1) = scanSorted ltInt e b i) := Lib.hid fun h => (scanSorted_go ltInt e b k hlt h).symm.trans HS.out
          have HLE : Hid (ltInt e[k]! e[k - 1]! = true → scanSorted ltInt e b i = k) := Lib.hid fun h => HS.out.symm.trans (scanSorted_stop ltInt e b k (.inr h))
          have HSW := Lib.hid (fun q => HU.out.swap q (j := k) (k := k - 1) (by omega) (by omega))
          obtain ⟨x, hx⟩ : ∃ x, e[k]! = x := ⟨_, rfl⟩
          obtain ⟨y, hy⟩ : ∃ y, e[k - 1]! = y := ⟨_, rfl⟩
          rw [hx] at c1 HLT HLE HSW
          rw [hy] at c2 HLT HLE HSW
          obtain ⟨lb, hlb⟩ : ∃ z, ltInt x y = z := ⟨_, rfl⟩
          have HLS := Lib.hid (u_Less x y)
          rw [hlb] at HLS HLT HLE
          have v1 : IntKind.i64.wrap ((k : Int) - 1) = (k : Int) - 1 := IntWalk.i64_in _ (by omega)
          have v2 : ((k : Int) - 1).toNat = k - 1 := by omega
          have w3 : (0 : Int) ≤ (k : Int) - 1 := by omega
          have w4 : (k : Int) - 1 < (d.size : Int) := by omega
          have w5 : (k : Int) < (d.size : Int) := by omega
          have b1 : decide ((k : Int) < (b : Int)) = true := decide_eq_true (by omega)
          have hka : a < k := by omega
          clear hx hy hlb HS
          go_wp2_with fail
          go_quiet (first | (go_at_call 131; refine Calls.quiet_of_same (HLS.out _)))
          cases lb with
          | false =>
            have HN := Lib.hid (HLT.out rfl)
            clear HLT HLE
            go_wp2
            exact ⟨⟨k + 1, by go_num, by omega, by omega, Lib.hid (HU.out.drewN nq), HN⟩, by simp [intOf]; omega⟩
          | true =>
            have HK := Lib.hid (HLE.out rfl)
            have b2 : ((k : Int) == (b : Int)) = false := by simp; omega
            clear HLT HLE HLS
            by_cases h50 : b - a < 50
            · have HR : Hid (P = (e, false)) := Lib.hid (by rw [← HO.out, pi_short ltInt a b s i e hs (by rw [HK.out]; omega) h50])
              clear c1 c2 HSW
              go_wp2
              go_ret
              exact BoolUG.mk HR.out (HU.out.drewN nq)
            · have HG : Hid (partialIns ltInt a b (5 - (s + 1)) k (fixUp ltInt b k (fixDown ltInt a k (swp e k (k - 1)))) = P) := Lib.hid (by rw [← HO.out, pi_go ltInt a b s i k e hs HK.out (by omega) h50])
              have f1 := HU.out.frozen HH.out hse (t := k) (by omega)
              have f2 := HU.out.frozen HH.out hse (t := k - 1) (by omega)
              have hne : ¬ off + k = off + (k - 1) := by omega
              have z50 : ¬ ((b : Int) - (a : Int)) < 50 := by omega
              obtain ⟨e1, he1⟩ : ∃ z, swp e k (k - 1) = z := ⟨_, rfl⟩
              have hs1 : e1.size = d.size := by rw [← he1, size_swp]; exact hse
              rw [he1] at HSW HG
              obtain ⟨e2, he2⟩ : ∃ z, fixDown ltInt a k e1 = z := ⟨_, rfl⟩
              have hs2 : e2.size = d.size := by rw [← he2, fixDown_size]; exact hs1
              have HE2 := Lib.hid he2
              obtain ⟨e3, he3⟩ : ∃ z, fixUp ltInt b k e2 = z := ⟨_, rfl⟩
              have hs3 : e3.size = d.size := by rw [← he3, fixUp_size]; exact hs2
              have HE3 := Lib.hid he3
              rw [he2, he3] at HG
              clear he1 he2 he3 HO HK
              go_wp2_with fail
              go_region
              go_upto_if 61 with fail
              have HU1 : Hid (UG w g off e1 _) := Lib.hid (HSW.out (nq + 1))
              clear HSW c1 c2 f1 f2 HU
              go_cut [9] (fun s9 wc => Hid (UG w g off e2 wc))
              case first =>
                by_cases hk2 : k - a ≥ 2
                · have z2 : (2 : Int) ≤ (k : Int) - (a : Int) := by omega
                  go_wp2
                  go_loopw [9] (fun jv wr => ∃ (j : Nat) (f : Array Int), jv = .int .i64 j ∧ j ≤ k - 1 ∧ f.size = d.size ∧ Hid (UG w g off f wr) ∧ Hid (shiftDown ltInt j f = e2)) (fun jv _ => (intOf jv).toNat)
                  case atStart => exact ⟨k - 1, e1, by congr 1; omega, Nat.le_refl _, hs1, HU1, Lib.hid (by rw [← HE2.out]; unfold fixDown; rw [if_pos hk2])⟩
                  case round =>
                    clear HU1
                    obtain ⟨j, f, rfl, hjk, hsf, HF, HD⟩ := hrel
                    by_cases hj : 1 ≤ j
                    · have c1 := HF.out.cell HH.out hsf (t := j) (by omega)
                      have c2 := HF.out.cell HH.out hsf (t := j - 1) (by omega)
                      have f1 := HF.out.frozen HH.out hsf (t := j) (by omega)
                      have f2 := HF.out.frozen HH.out hsf (t := j - 1) (by omega)
                      have HSW := Lib.hid (fun q => HF.out.swap q (j := j) (k := j - 1) (by omega) (by omega))
                      have HGO : Hid (ltInt f[j]! f[j - 1]! = true → shiftDown ltInt (j - 1) (swp f j (j - 1)) = e2) := Lib.hid fun h => by rw [← HD.out, shiftDown_go ltInt j f hj h]
                      have HST : Hid (ltInt f[j]! f[j - 1]! = false → f = e2) := Lib.hid fun h => by rw [← HD.out, shiftDown_stop ltInt j f (.inr h)]
                      obtain ⟨x, hx⟩ : ∃ x, f[j]! = x := ⟨_, rfl⟩
                      obtain ⟨y, hy⟩ : ∃ y, f[j - 1]! = y := ⟨_, rfl⟩
                      rw [hx] at c1 HSW HGO HST
                      rw [hy] at c2 HSW HGO HST
                      obtain ⟨lb, hlb⟩ : ∃ z, ltInt x y = z := ⟨_, rfl⟩
                      have HLS := Lib.hid (u_Less x y)
                      rw [hlb] at HLS HGO HST
                      have v1 : IntKind.i64.wrap ((j : Int) - 1) = (j : Int) - 1 := IntWalk.i64_in _ (by omega)
                      have v2 : ((j : Int) - 1).toNat = j - 1 := by omega
                      have w3 : (0 : Int) ≤ (j : Int) - 1 := by omega
                      have w4 : (j : Int) - 1 < (d.size : Int) := by omega
                      have w5 : (j : Int) < (d.size : Int) := by omega
                      have hne : ¬ off + j = off + (j - 1) := by omega
                      clear hx hy hlb HD
                      go_wp2_with fail
                      go_quiet (first | (go_at_call 131; refine Calls.quiet_of_same (HLS.out _)))
                      cases lb with
                      | true =>
                        have HN := Lib.hid (HGO.out rfl)
                        clear HGO HST HLS
                        go_wp2_with fail
                        go_region
                        all_goals go_wp2
                        all_goals exact ⟨⟨j - 1, swp f j (j - 1), by congr 1; omega, by omega, by rw [size_swp]; exact hsf, Lib.hid (HSW.out (nq + 1)), HN⟩, by simp [intOf]; omega⟩
                      | false =>
                        have HN := Lib.hid (HST.out rfl)
                        clear HGO HST HLS HSW c1 c2 f1 f2
                        go_wp2_with fail
                        go_meet
                        exact Lib.hid (by rw [← HN.out]; exact HF.out.drewN nq)
                    · have HN : Hid (f = e2) := Lib.hid (by rw [← HD.out, shiftDown_stop ltInt j f (.inl (by omega))])
                      have w6 : ¬ (1 : Int) ≤ (j : Int) := by omega
                      go_wp2_with fail
                      go_meet
                      exact Lib.hid (by rw [← HN.out]; exact HF.out)
                · have z2 : ¬ (2 : Int) ≤ (k : Int) - (a : Int) := by omega
                  have HN : Hid (e1 = e2) := Lib.hid (by rw [← HE2.out]; unfold fixDown; rw [if_neg hk2])
                  go_wp2_with fail
                  go_meet
                  exact Lib.hid (by rw [← HN.out]; exact HU1.out)
              case rest =>
                have HU2 := hcut
                clear hcut HU1
                by_cases hk2 : b - k ≥ 2
                · have z2 : (2 : Int) ≤ (b : Int) - (k : Int) := by omega
                  go_wp2
                  go_loopw [10] (fun jv wr => ∃ (j : Nat) (f : Array Int), jv = .int .i64 j ∧ k + 1 ≤ j ∧ j ≤ b ∧ f.size = d.size ∧ Hid (UG w g off f wr) ∧ Hid (shiftUp ltInt b j f = e3)) (fun jv _ => b - (intOf jv).toNat)
                  case atStart => exact ⟨k + 1, e2, by go_num, Nat.le_refl _, by omega, hs2, HU2, Lib.hid (by rw [← HE3.out]; unfold fixUp; rw [if_pos hk2])⟩
                  case round =>
                    clear HU2
                    obtain ⟨j, f, rfl, hkj, hjb, hsf, HF, HD⟩ := hrel
                    by_cases hj : j < b
                    · have c1 := HF.out.cell HH.out hsf (t := j) (by omega)
                      have c2 := HF.out.cell HH.out hsf (t := j - 1) (by omega)
                      have f1 := HF.out.frozen HH.out hsf (t := j) (by omega)
                      have f2 := HF.out.frozen HH.out hsf (t := j - 1) (by omega)
                      have HSW := Lib.hid (fun q => HF.out.swap q (j := j) (k := j - 1) (by omega) (by omega))
                      have HGO : Hid (ltInt f[j]! f[j - 1]! = true → shiftUp ltInt b (j + 1) (swp f j (j - 1)) = e3) := Lib.hid fun h => by rw [← HD.out, shiftUp_go ltInt b j f hj h]
                      have HST : Hid (ltInt f[j]! f[j - 1]! = false → f = e3) := Lib.hid fun h => by rw [← HD.out, shiftUp_stop ltInt b j f (.inr h)]
                      obtain ⟨x, hx⟩ : ∃ x, f[j]! = x := ⟨_, rfl⟩
                      obtain ⟨y, hy⟩ : ∃ y, f[j - 1]! = y := ⟨_, rfl⟩
                      rw [hx] at c1 HSW HGO HST
                      rw [hy] at c2 HSW HGO HST
                      obtain ⟨lb, hlb⟩ : ∃ z, ltInt x y = z := ⟨_, rfl⟩
                      have HLS := Lib.hid (u_Less x y)
                      rw [hlb] at HLS HGO HST
                      have v1 : IntKind.i64.wrap ((j : Int) - 1) = (j : Int) - 1 := IntWalk.i64_in _ (by omega)
                      have v2 : ((j : Int) - 1).toNat = j - 1 := by omega
                      have w3 : (0 : Int) ≤ (j : Int) - 1 := by omega
                      have w4 : (j : Int) - 1 < (d.size : Int) := by omega
                      have w5 : (j : Int) < (d.size : Int) := by omega
                      have hne : ¬ off + j = off + (j - 1) := by omega
                      clear hx hy hlb HD
                      go_wp2_with fail
                      go_quiet (first | (go_at_call 131; refine Calls.quiet_of_same (HLS.out _)))
                      cases lb with
                      | true =>
                        have HN := Lib.hid (HGO.out rfl)
                        clear HGO HST HLS
                        go_wp2_with fail
                        go_region
                        all_goals go_wp2
                        all_goals exact ⟨⟨j + 1, swp f j (j - 1), by go_num, by omega, by omega, by rw [size_swp]; exact hsf, Lib.hid (HSW.out (nq + 1)), HN⟩, by simp [intOf]; omega⟩
                      | false =>
                        have HN := Lib.hid (HST.out rfl)
                        clear HGO HST HLS HSW c1 c2 f1 f2
                        go_wp2
                        go_roundg (5 - (s + 1))
                        case measure => omega
                        case rel => exact ⟨k, s + 1, e3, rfl, by go_num, by omega, by omega, by omega, hs3, Lib.hid (by rw [← HN.out]; exact HF.out.drewN nq), HG⟩
                    · have HN : Hid (f = e3) := Lib.hid (by rw [← HD.out, shiftUp_stop ltInt b j f (.inl (by omega))])
                      have w6 : ¬ (j : Int) < (b : Int) := by omega
                      go_wp2
                      go_roundg (5 - (s + 1))
                      case measure => omega
                      case rel => exact ⟨k, s + 1, e3, rfl, by go_num, by omega, by omega, by omega, hs3, Lib.hid (by rw [← HN.out]; exact HF.out), HG⟩
                · have z2 : ¬ (2 : Int) ≤ (b : Int) - (k : Int) := by omega
                  have HN : Hid (e2 = e3) := Lib.hid (by rw [← HE3.out]; unfold fixUp; rw [if_neg hk2])
                  go_wp2
                  go_roundg (5 - (s + 1))
                  case measure => omega
                  case rel => exact ⟨k, s + 1, e3, rfl, by go_num, by omega, by omega, by omega, hs3, Lib.hid (by rw [← HN.out]; exact HU2.out), HG⟩
        · obtain rfl : k = b := by omega
          have HR : Hid (P = (e, true)) := Lib.hid (by rw [← HO.out, pi_true ltInt a k s i e hs (by rw [← HS.out, scanSorted_stop ltInt e k k (.inl (by omega))])])
          have b1 : decide ((k : Int) < (k : Int)) = false := decide_eq_false (by omega)
          go_wp2_with fail
          go_quiet (fail)
          go_wp2
          go_ret
          exact BoolUG.mk HR.out (HU.out.drewN nq)
    · obtain rfl : s = 5 := by omega
      have HR : Hid (P = (e, false)) := Lib.hid (by rw [← HO.out]; rfl)
      go_wp2
      go_ret
      exact BoolUG.mk HR.out HU.out
end Go.Proofs.YtgheloooibafcaaGreatDoor

namespace Go.Proofs.YtgheloooibafcaaGreatDoor
open Go.RowKit Go.Sort

def IntUG (w : World) (g off : Nat) (r : Nat × Array Int) (e : Ending) (w' : World) : Prop := e = .returned (.int .i64 r.1) ∧ UG w g off r.2 w'
theorem IntUG.mk {w w' : World} {g off : Nat} {r : Nat × Array Int} {d : Array Int} {i : Nat} (h : r = (i, d)) (k : UG w g off d w') : IntUG w g off r (.returned (.int .i64 i)) w' := by subst h; exact ⟨rfl, k⟩

set_option maxHeartbeats 4000000 in
set_option maxRecDepth 100000 in
theorem u_partEq (g off cap a b pivot : Nat) (d : Array Int) (w : World) (hH : Holds eU w g off d) (hap : a ≤ pivot) (hpb : pivot < b) (hb : b ≤ d.size) (hsz : d.size ≤ 1000000) :
    Calls Tryz.prog 132 #[.slice (some ⟨g, off, none⟩) d.size cap, .int .i64 a, .int .i64 b, .int .i64 pivot] w (IntUG w g off (partitionEqual ltInt d a b pivot)) := by
  have HH := Lib.hid hH
  have HU0 := Lib.hid (UG.refl hH)
  obtain ⟨R, hR⟩ : ∃ R, partitionEqual ltInt d a b pivot = R := ⟨_, rfl⟩
  have HR : Hid (partEqLoop ltInt a (a + 1) (b - 1) (swp d a pivot) = R) := Lib.hid hR
  rw [hR]
  have hsd : d.size = d.size := rfl
  have c1 := HU0.out.cell HH.out hsd (t := a) (by omega)
  have c2 := HU0.out.cell HH.out hsd (t := pivot) (by omega)
  have f1 := HU0.out.frozen HH.out hsd (t := a) (by omega)
  have f2 := HU0.out.frozen HH.out hsd (t := pivot) (by omega)
  have HSW := Lib.hid (fun q => HU0.out.swap q (j := a) (k := pivot) (by omega) (by omega))
  obtain ⟨x, hx⟩ : ∃ x, d[a]! = x := ⟨_, rfl⟩
  obtain ⟨y, hy⟩ : ∃ y, d[pivot]! = y := ⟨_, rfl⟩
  rw [hx] at c1 HSW
  rw [hy] at c2 HSW
  clear hx hy
  have w5 : (a : Int) < (d.size : Int) := by omega
  have w6 : (pivot : Int) < (d.size : Int) := by omega
  obtain ⟨v3, hy3⟩ := cell?_setCell_some (p := ⟨g, off + a, none⟩) (x := .int .u32 y) (q := ⟨g, off + pivot, none⟩) c2
  clear hH hR
  go_enter Tryz.func132, Tryz.ntmps132
  go_wp2_with fail
  go_region
  have HU1 : Hid (UG w g off (swp d a pivot) _) := Lib.hid (HSW.out 1)
  obtain ⟨e0, he0⟩ : ∃ z, swp d a pivot = z := ⟨_, rfl⟩
  have hs0 : e0.size = d.size := by rw [← he0, size_swp]
  rw [he0] at HU1 HR
  clear he0 HSW c1 c2 f1 f2 hy3 HU0
  go_wp2
  go_loopg [9, 10] (b - 1 - a) (fun n s9 s10 wr => ∃ (i j : Nat) (e : Array Int), s9 = .int .i64 i ∧ s10 = .int .i64 j ∧ a < i ∧ i ≤ j + 1 ∧ j < b ∧ j + 1 - i = n ∧ e.size = d.size ∧ Hid (UG w g off e wr) ∧ Hid (partEqLoop ltInt a i j e = R))
  case atStart => exact ⟨a + 1, b - 1, e0, by go_num, by congr 1; omega, by omega, by omega, by omega, by omega, hs0, HU1, HR⟩
  case round =>
    clear HU1
    obtain ⟨i, j, e, rfl, rfl, hai, hij, hjb, hn, hse, HU, HO⟩ := hrel
    obtain ⟨I2, hI2⟩ : ∃ z, scanUp (fun x => !ltInt e[a]! x) e j i = z := ⟨_, rfl⟩
    obtain ⟨J2, hJ2⟩ : ∃ z, scanDown (fun x => ltInt e[a]! x) e I2 j = z := ⟨_, rfl⟩
    have HI2 := Lib.hid hI2
    have HJ2 := Lib.hid hJ2
    clear hI2 hJ2
    go_upto_block 2 with fail
    go_cut [9] (fun sv wc => sv = .int .i64 I2 ∧ i ≤ I2 ∧ I2 ≤ j + 1 ∧ Hid (UG w g off e wc))
    case first =>
      go_wp2_with fail
      go_loopw [9] (fun iv wr => ∃ t : Nat, iv = .int .i64 t ∧ i ≤ t ∧ t ≤ j + 1 ∧ Hid (UG w g off e wr) ∧ Hid (scanUp (fun x => !ltInt e[a]! x) e j t = I2)) (fun iv _ => j + 1 - (intOf iv).toNat)
      case atStart => exact ⟨i, rfl, Nat.le_refl _, hij, HU, HI2⟩
      case round =>
        obtain ⟨t, rfl, hit, htj, HU2, HS⟩ := hrel
        by_cases hle : t ≤ j
        · have c1 := HU2.out.cell HH.out hse (t := t) (by omega)
          have c2 := HU2.out.cell HH.out hse (t := a) (by omega)
          have HGO : Hid (ltInt e[a]! e[t]! = false → scanUp (fun x => !ltInt e[a]! x) e j (t + 1) = I2) := Lib.hid fun h => (scanUp_go (fun x => !ltInt e[a]! x) e j t hle (by rw [h]; rfl)).symm.trans HS.out
          have HST : Hid (ltInt e[a]! e[t]! = true → t = I2) := Lib.hid fun h => (scanUp_end (fun x => !ltInt e[a]! x) e j t (.inr (by rw [h]; rfl))).symm.trans HS.out
          obtain ⟨x, hx⟩ : ∃ x, e[t]! = x := ⟨_, rfl⟩
          obtain ⟨y, hy⟩ : ∃ y, e[a]! = y := ⟨_, rfl⟩
          rw [hx] at c1 HGO HST
          rw [hy] at c2
          have HGO2 : Hid (ltInt y x = false → scanUp (fun x => !ltInt e[a]! x) e j (t + 1) = I2) := Lib.hid fun h => HGO.out (by rw [hy]; exact h)
          have HST2 : Hid (ltInt y x = true → t = I2) := Lib.hid fun h => HST.out (by rw [hy]; exact h)
          obtain ⟨lb, hlb⟩ : ∃ z, ltInt y x = z := ⟨_, rfl⟩
          have HLS := Lib.hid (u_Less y x)
          rw [hlb] at HLS HGO2 HST2
          have w5 : (t : Int) < (d.size : Int) := by omega
          have w6 : (a : Int) < (d.size : Int) := by omega
          have b1 : decide ((t : Int) ≤ (j : Int)) = true := decide_eq_true (by omega)
          clear hx hy hlb HS HGO HST
          go_wp2_with fail
          go_quiet (first | (go_at_call 131; refine Calls.quiet_of_same (HLS.out _)))
          cases lb with
          | false =>
            have HN := Lib.hid (HGO2.out rfl)
            clear HGO2 HST2 HLS
            go_wp2
            exact ⟨⟨t + 1, by go_num, by omega, by omega, Lib.hid (HU2.out.drewN nq), HN⟩, by simp [intOf]; omega⟩
          | true =>
            have HN := Lib.hid (HST2.out rfl)
            clear HGO2 HST2 HLS c1 c2
            obtain rfl := HN.out
            go_wp2_with fail
            go_meet
            exact ⟨rfl, by omega, by omega, Lib.hid (HU2.out.drewN nq)⟩
        · have HN := Lib.hid ((scanUp_end (fun x => !ltInt e[a]! x) e j t (.inl hle)).symm.trans HS.out)
          have b1 : decide ((t : Int) ≤ (j : Int)) = false := decide_eq_false (by omega)
          obtain rfl := HN.out
          go_wp2_with fail
          go_quiet (fail)
          go_wp2_with fail
          go_meet
          exact ⟨rfl, by omega, by omega, Lib.hid (HU2.out.drewN nq)⟩
    case rest =>
      obtain ⟨rfl, h1, h2, HU3⟩ := hcut
      clear HU
      go_upto_block 4 with fail
      go_cut [10] (fun sv wc => sv = .int .i64 J2 ∧ J2 ≤ j ∧ I2 ≤ J2 + 1 ∧ Hid (UG w g off e wc))
      case first =>
        go_wp2_with fail
        go_loopw [10] (fun iv wr => ∃ t : Nat, iv = .int .i64 t ∧ t ≤ j ∧ I2 ≤ t + 1 ∧ Hid (UG w g off e wr) ∧ Hid (scanDown (fun x => ltInt e[a]! x) e I2 t = J2)) (fun iv _ => (intOf iv).toNat)
        case atStart => exact ⟨j, rfl, Nat.le_refl _, h2, HU3, HJ2⟩
        case round =>
          obtain ⟨t, rfl, htj, hit, HU2, HS⟩ := hrel
          by_cases hle : I2 ≤ t
          · have c1 := HU2.out.cell HH.out hse (t := t) (by omega)
            have c2 := HU2.out.cell HH.out hse (t := a) (by omega)
            have HGO : Hid (ltInt e[a]! e[t]! = true → scanDown (fun x => ltInt e[a]! x) e I2 (t - 1) = J2) := Lib.hid fun h => (scanDown_go (fun x => ltInt e[a]! x) e I2 t hle (by omega) h).symm.trans HS.out
            have HST : Hid (ltInt e[a]! e[t]! = false → t = J2) := Lib.hid fun h => (scanDown_end (fun x => ltInt e[a]! x) e I2 t (.inr h)).symm.trans HS.out
            obtain ⟨x, hx⟩ : ∃ x, e[t]! = x := ⟨_, rfl⟩
            obtain ⟨y, hy⟩ : ∃ y, e[a]! = y := ⟨_, rfl⟩
            rw [hx] at c1 HGO HST
            rw [hy] at c2
            have HGO2 : Hid (ltInt y x = true → scanDown (fun x => ltInt e[a]! x) e I2 (t - 1) = J2) := Lib.hid fun h => HGO.out (by rw [hy]; exact h)
            have HST2 : Hid (ltInt y x = false → t = J2) := Lib.hid fun h => HST.out (by rw [hy]; exact h)
            obtain ⟨lb, hlb⟩ : ∃ z, ltInt y x = z := ⟨_, rfl⟩
            have HLS := Lib.hid (u_Less y x)
            rw [hlb] at HLS HGO2 HST2
            have w5 : (t : Int) < (d.size : Int) := by omega
            have w6 : (a : Int) < (d.size : Int) := by omega
            have b1 : decide ((I2 : Int) ≤ (t : Int)) = true := decide_eq_true (by omega)
            clear hx hy hlb HS HGO HST
            go_wp2_with fail
            go_quiet (first | (go_at_call 131; refine Calls.quiet_of_same (HLS.out _)))
            cases lb with
            | true =>
              have HN := Lib.hid (HGO2.out rfl)
              clear HGO2 HST2 HLS
              go_wp2
              exact ⟨⟨t - 1, by go_num, by omega, by omega, Lib.hid (HU2.out.drewN nq), HN⟩, by simp [intOf]; omega⟩
            | false =>
              have HN := Lib.hid (HST2.out rfl)
              clear HGO2 HST2 HLS c1 c2
              obtain rfl := HN.out
              go_wp2_with fail
              go_meet
              exact ⟨rfl, by omega, by omega, Lib.hid (HU2.out.drewN nq)⟩
          · have HN := Lib.hid ((scanDown_end (fun x => ltInt e[a]! x) e I2 t (.inl hle)).symm.trans HS.out)
            have b1 : decide ((I2 : Int) ≤ (t : Int)) = false := decide_eq_false (by omega)
            obtain rfl := HN.out
            go_wp2_with fail
            go_quiet (fail)
            go_wp2_with fail
            go_meet
            exact ⟨rfl, by omega, by omega, Lib.hid (HU2.out.drewN nq)⟩
      case rest =>
        obtain ⟨rfl, h3, h4, HU4⟩ := hcut
        clear HU3
        by_cases hgt : J2 < I2
        · have HF : Hid (R = (I2, e)) := Lib.hid (by rw [← HO.out]; exact partEq_break ltInt a i j e HI2.out.symm HJ2.out.symm hgt)
          go_wp2
          go_ret
          exact IntUG.mk HF.out HU4.out
        · have hlt : I2 < J2 := scans_lt ltInt a i j e (by omega) HI2.out.symm HJ2.out.symm (by omega)
          have HN : Hid (partEqLoop ltInt a (I2 + 1) (J2 - 1) (swp e I2 J2) = R) := Lib.hid (by rw [← HO.out]; exact (partEq_go ltInt a i j e HI2.out.symm HJ2.out.symm (by omega)).symm)
          have c1 := HU4.out.cell HH.out hse (t := I2) (by omega)
          have c2 := HU4.out.cell HH.out hse (t := J2) (by omega)
          have f1 := HU4.out.frozen HH.out hse (t := I2) (by omega)
          have f2 := HU4.out.frozen HH.out hse (t := J2) (by omega)
          have HSW := Lib.hid (fun q => HU4.out.swap q (j := I2) (k := J2) (by omega) (by omega))
          obtain ⟨x, hx⟩ : ∃ x, e[I2]! = x := ⟨_, rfl⟩
          obtain ⟨y, hy⟩ : ∃ y, e[J2]! = y := ⟨_, rfl⟩
          rw [hx] at c1 HSW
          rw [hy] at c2 HSW
          clear hx hy
          have w5 : (I2 : Int) < (d.size : Int) := by omega
          have w6 : (J2 : Int) < (d.size : Int) := by omega
          have hne : ¬ off + I2 = off + J2 := by omega
          go_wp2_with fail
          go_region
          all_goals go_wp2
          all_goals go_roundg (J2 - 1 + 1 - (I2 + 1))
          case measure => omega
          case rel => exact ⟨I2 + 1, J2 - 1, swp e I2 J2, by go_num, by congr 1; omega, by omega, by omega, by omega, rfl, by rw [size_swp]; exact hse, Lib.hid (HSW.out 1), HN⟩
end Go.Proofs.YtgheloooibafcaaGreatDoor

namespace Go.Proofs.YtgheloooibafcaaGreatDoor
open Go.RowKit Go.Sort

def PartUG (w : World) (g off : Nat) (r : Nat × Bool × Array Int) (e : Ending) (w' : World) : Prop := e = .returned (.tuple #[.int .i64 r.1, .bool r.2.1]) ∧ UG w g off r.2.2 w'
theorem PartUG.mk {w w' : World} {g off : Nat} {r : Nat × Bool × Array Int} {d : Array Int} {i : Nat} {b : Bool} (h : r = (i, b, d)) (k : UG w g off d w') : PartUG w g off r (.returned (.tuple #[.int .i64 i, .bool b])) w' := by subst h; exact ⟨rfl, k⟩

set_option maxHeartbeats 8000000 in
set_option maxRecDepth 100000 in
theorem u_part (g off cap a b pivot : Nat) (d : Array Int) (w : World) (hH : Holds eU w g off d) (hap : a ≤ pivot) (hpb : pivot < b) (hb : b ≤ d.size) (hsz : d.size ≤ 1000000) :
    Calls Tryz.prog 133 #[.slice (some ⟨g, off, none⟩) d.size cap, .int .i64 a, .int .i64 b, .int .i64 pivot] w (PartUG w g off (partition ltInt d a b pivot)) := by
  have HH := Lib.hid hH
  have HU0 := Lib.hid (UG.refl hH)
  obtain ⟨R, hR⟩ : ∃ R, partition ltInt d a b pivot = R := ⟨_, rfl⟩
  have HR := Lib.hid hR
  rw [hR]
  have hsd : d.size = d.size := rfl
  have c1 := HU0.out.cell HH.out hsd (t := a) (by omega)
  have c2 := HU0.out.cell HH.out hsd (t := pivot) (by omega)
  have f1 := HU0.out.frozen HH.out hsd (t := a) (by omega)
  have f2 := HU0.out.frozen HH.out hsd (t := pivot) (by omega)
  have HSW := Lib.hid (fun q => HU0.out.swap q (j := a) (k := pivot) (by omega) (by omega))
  obtain ⟨x, hx⟩ : ∃ x, d[a]! = x := ⟨_, rfl⟩
  obtain ⟨y, hy⟩ : ∃ y, d[pivot]! = y := ⟨_, rfl⟩
  rw [hx] at c1 HSW
  rw [hy] at c2 HSW
  clear hx hy
  have w5 : (a : Int) < (d.size : Int) := by omega
  have w6 : (pivot : Int) < (d.size : Int) := by omega
  obtain ⟨v3, hy3⟩ := cell?_setCell_some (p := ⟨g, off + a, none⟩) (x := .int .u32 y) (q := ⟨g, off + pivot, none⟩) c2
  clear hH hR
  go_enter Tryz.func133, Tryz.ntmps133
  go_wp2_with fail
  go_region
  have HU1 : Hid (UG w g off (swp d a pivot) _) := Lib.hid (HSW.out 1)
  obtain ⟨e, he⟩ : ∃ z, swp d a pivot = z := ⟨_, rfl⟩
  have hse : e.size = d.size := by rw [← he, size_swp]
  rw [he] at HU1
  have HE := Lib.hid he
  obtain ⟨i, hi⟩ : ∃ z : Nat, a + 1 = z := ⟨_, rfl⟩
  obtain ⟨j, hj⟩ : ∃ z : Nat, b - 1 = z := ⟨_, rfl⟩
  obtain ⟨I2, hI2⟩ : ∃ z, scanUp (fun x => ltInt x e[a]!) e j i = z := ⟨_, rfl⟩
  obtain ⟨J2, hJ2⟩ : ∃ z, scanDown (fun x => !ltInt x e[a]!) e I2 j = z := ⟨_, rfl⟩
  have HI2 := Lib.hid hI2
  have HJ2 := Lib.hid hJ2
  have HI := Lib.hid hi
  have HJ := Lib.hid hj
  have hai : a < i := by omega
  have hij : i ≤ j + 1 := by omega
  have hjb : j < b := by omega
  have vi : (a : Int) + 1 = (i : Int) := by omega
  have vj : (b : Int) - 1 = (j : Int) := by omega
  clear he HSW c1 c2 f1 f2 hy3 HU0 hI2 hJ2 hi hj
  go_upto_block 0 with fail
  go_cut [10] (fun sv wc => sv = .int .i64 I2 ∧ i ≤ I2 ∧ I2 ≤ j + 1 ∧ Hid (UG w g off e wc))
  case first =>
    go_wp2_with fail
    go_loopw [10] (fun iv wr => ∃ t : Nat, iv = .int .i64 t ∧ i ≤ t ∧ t ≤ j + 1 ∧ Hid (UG w g off e wr) ∧ Hid (scanUp (fun x => ltInt x e[a]!) e j t = I2)) (fun iv _ => j + 1 - (intOf iv).toNat)
    case atStart => exact ⟨i, rfl, Nat.le_refl _, hij, HU1, HI2⟩
    case round =>
      obtain ⟨t, rfl, hit, htj, HU2, HS⟩ := hrel
      by_cases hle : t ≤ j
      · have c1 := HU2.out.cell HH.out hse (t := t) (by omega)
        have c2 := HU2.out.cell HH.out hse (t := a) (by omega)
        have HGO : Hid (ltInt e[t]! e[a]! = true → scanUp (fun x => ltInt x e[a]!) e j (t + 1) = I2) := Lib.hid fun h => (scanUp_go (fun x => ltInt x e[a]!) e j t hle h).symm.trans HS.out
        have HST : Hid (ltInt e[t]! e[a]! = false → t = I2) := Lib.hid fun h => (scanUp_end (fun x => ltInt x e[a]!) e j t (.inr h)).symm.trans HS.out
        obtain ⟨x, hx⟩ : ∃ x, e[t]! = x := ⟨_, rfl⟩
        obtain ⟨y, hy⟩ : ∃ y, e[a]! = y := ⟨_, rfl⟩
        rw [hx] at c1 HGO HST
        rw [hy] at c2
        have HGO2 : Hid (ltInt x y = true → scanUp (fun x => ltInt x e[a]!) e j (t + 1) = I2) := Lib.hid fun h => HGO.out (by rw [hy]; exact h)
        have HST2 : Hid (ltInt x y = false → t = I2) := Lib.hid fun h => HST.out (by rw [hy]; exact h)
        obtain ⟨lb, hlb⟩ : ∃ z, ltInt x y = z := ⟨_, rfl⟩
        have HLS := Lib.hid (u_Less x y)
        rw [hlb] at HLS HGO2 HST2
        have w5 : (t : Int) < (d.size : Int) := by omega
        have w6 : (a : Int) < (d.size : Int) := by omega
        have b1 : decide ((t : Int) ≤ (j : Int)) = true := decide_eq_true (by omega)
        clear hx hy hlb HS HGO HST
        go_wp2_with fail
        go_quiet (first | (go_at_call 131; refine Calls.quiet_of_same (HLS.out _)))
        cases lb with
        | true =>
          have HN := Lib.hid (HGO2.out rfl)
          clear HGO2 HST2 HLS
          go_wp2
          exact ⟨⟨t + 1, by go_num, by omega, by omega, Lib.hid (HU2.out.drewN nq), HN⟩, by simp [intOf]; omega⟩
        | false =>
          have HN := Lib.hid (HST2.out rfl)
          clear HGO2 HST2 HLS c1 c2
          obtain rfl := HN.out
          go_wp2_with fail
          go_meet
          exact ⟨rfl, by omega, by omega, Lib.hid (HU2.out.drewN nq)⟩
      · have HN := Lib.hid ((scanUp_end (fun x => ltInt x e[a]!) e j t (.inl hle)).symm.trans HS.out)
        have b1 : decide ((t : Int) ≤ (j : Int)) = false := decide_eq_false (by omega)
        obtain rfl := HN.out
        go_wp2_with fail
        go_quiet (fail)
        go_wp2_with fail
        go_meet
        exact ⟨rfl, by omega, by omega, Lib.hid (HU2.out.drewN nq)⟩
  case rest =>
    obtain ⟨rfl, h1, h2, HU3⟩ := hcut
    clear HU1
    go_upto_block 2 with fail
    go_cut [11] (fun sv wc => sv = .int .i64 J2 ∧ J2 ≤ j ∧ I2 ≤ J2 + 1 ∧ Hid (UG w g off e wc))
    case first =>
      go_wp2_with fail
      go_loopw [11] (fun iv wr => ∃ t : Nat, iv = .int .i64 t ∧ t ≤ j ∧ I2 ≤ t + 1 ∧ Hid (UG w g off e wr) ∧ Hid (scanDown (fun x => !ltInt x e[a]!) e I2 t = J2)) (fun iv _ => (intOf iv).toNat)
      case atStart => exact ⟨j, rfl, Nat.le_refl _, h2, HU3, HJ2⟩
      case round =>
        obtain ⟨t, rfl, htj, hit, HU2, HS⟩ := hrel
        by_cases hle : I2 ≤ t
        · have c1 := HU2.out.cell HH.out hse (t := t) (by omega)
          have c2 := HU2.out.cell HH.out hse (t := a) (by omega)
          have HGO : Hid (ltInt e[t]! e[a]! = false → scanDown (fun x => !ltInt x e[a]!) e I2 (t - 1) = J2) := Lib.hid fun h => (scanDown_go (fun x => !ltInt x e[a]!) e I2 t hle (by omega) (by rw [h]; rfl)).symm.trans HS.out
          have HST : Hid (ltInt e[t]! e[a]! = true → t = J2) := Lib.hid fun h => (scanDown_end (fun x => !ltInt x e[a]!) e I2 t (.inr (by rw [h]; rfl))).symm.trans HS.out
          obtain ⟨x, hx⟩ : ∃ x, e[t]! = x := ⟨_, rfl⟩
          obtain ⟨y, hy⟩ : ∃ y, e[a]! = y := ⟨_, rfl⟩
          rw [hx] at c1 HGO HST
          rw [hy] at c2
          have HGO2 : Hid (ltInt x y = false → scanDown (fun x => !ltInt x e[a]!) e I2 (t - 1) = J2) := Lib.hid fun h => HGO.out (by rw [hy]; exact h)
          have HST2 : Hid (ltInt x y = true → t = J2) := Lib.hid fun h => HST.out (by rw [hy]; exact h)
          obtain ⟨lb, hlb⟩ : ∃ z, ltInt x y = z := ⟨_, rfl⟩
          have HLS := Lib.hid (u_Less x y)
          rw [hlb] at HLS HGO2 HST2
          have w5 : (t : Int) < (d.size : Int) := by omega
          have w6 : (a : Int) < (d.size : Int) := by omega
          have b1 : decide ((I2 : Int) ≤ (t : Int)) = true := decide_eq_true (by omega)
          clear hx hy hlb HS HGO HST
          go_wp2_with fail
          go_quiet (first | (go_at_call 131; refine Calls.quiet_of_same (HLS.out _)))
          cases lb with
          | false =>
            have HN := Lib.hid (HGO2.out rfl)
            clear HGO2 HST2 HLS
            go_wp2
            exact ⟨⟨t - 1, by go_num, by omega, by omega, Lib.hid (HU2.out.drewN nq), HN⟩, by simp [intOf]; omega⟩
          | true =>
            have HN := Lib.hid (HST2.out rfl)
            clear HGO2 HST2 HLS c1 c2
            obtain rfl := HN.out
            go_wp2_with fail
            go_meet
            exact ⟨rfl, by omega, by omega, Lib.hid (HU2.out.drewN nq)⟩
        · have HN := Lib.hid ((scanDown_end (fun x => !ltInt x e[a]!) e I2 t (.inl hle)).symm.trans HS.out)
          have b1 : decide ((I2 : Int) ≤ (t : Int)) = false := decide_eq_false (by omega)
          obtain rfl := HN.out
          go_wp2_with fail
          go_quiet (fail)
          go_wp2_with fail
          go_meet
          exact ⟨rfl, by omega, by omega, Lib.hid (HU2.out.drewN nq)⟩
    case rest =>
      obtain ⟨rfl, h3, h4, HU4⟩ := hcut
      clear HU3
      by_cases hgt : J2 < I2
      · have HF : Hid (R = (J2, true, swp e J2 a)) := Lib.hid (by rw [← HR.out]; exact part_first_break ltInt d a b pivot HI.out.symm HJ.out.symm HE.out.symm HI2.out.symm HJ2.out.symm hgt)
        have c1 := HU4.out.cell HH.out hse (t := J2) (by omega)
        have c2 := HU4.out.cell HH.out hse (t := a) (by omega)
        have f1 := HU4.out.frozen HH.out hse (t := J2) (by omega)
        have f2 := HU4.out.frozen HH.out hse (t := a) (by omega)
        have HSW := Lib.hid (fun q => HU4.out.swap q (j := J2) (k := a) (by omega) (by omega))
        obtain ⟨x, hx⟩ : ∃ x, e[J2]! = x := ⟨_, rfl⟩
        obtain ⟨y, hy⟩ : ∃ y, e[a]! = y := ⟨_, rfl⟩
        rw [hx] at c1 HSW
        rw [hy] at c2 HSW
        clear hx hy
        have w5 : (J2 : Int) < (d.size : Int) := by omega
        have w6 : (a : Int) < (d.size : Int) := by omega
        obtain ⟨v3, hy3⟩ := cell?_setCell_some (p := ⟨g, off + J2, none⟩) (x := .int .u32 y) (q := ⟨g, off + a, none⟩) c2
        go_wp2_with fail
        go_region
        all_goals go_wp2
        all_goals go_ret2
        all_goals exact PartUG.mk HF.out (HSW.out 1)
      · have hlt : I2 < J2 := part_scans_lt ltInt a i j e (by omega) HI2.out.symm HJ2.out.symm (by omega)
        obtain ⟨S, hS⟩ : ∃ z, partLoop ltInt a (I2 + 1) (J2 - 1) (swp e I2 J2) = z := ⟨_, rfl⟩
        have HF : Hid (R = (S.1, false, swp S.2 S.1 a)) := Lib.hid (by rw [← HR.out, ← hS]; exact part_first_go ltInt d a b pivot HI.out.symm HJ.out.symm HE.out.symm HI2.out.symm HJ2.out.symm (by omega))
        have HS := Lib.hid hS
        clear hS
        have c1 := HU4.out.cell HH.out hse (t := I2) (by omega)
        have c2 := HU4.out.cell HH.out hse (t := J2) (by omega)
        have f1 := HU4.out.frozen HH.out hse (t := I2) (by omega)
        have f2 := HU4.out.frozen HH.out hse (t := J2) (by omega)
        have HSW := Lib.hid (fun q => HU4.out.swap q (j := I2) (k := J2) (by omega) (by omega))
        obtain ⟨x, hx⟩ : ∃ x, e[I2]! = x := ⟨_, rfl⟩
        obtain ⟨y, hy⟩ : ∃ y, e[J2]! = y := ⟨_, rfl⟩
        rw [hx] at c1 HSW
        rw [hy] at c2 HSW
        clear hx hy
        have w5 : (I2 : Int) < (d.size : Int) := by omega
        have w6 : (J2 : Int) < (d.size : Int) := by omega
        have hne : ¬ off + I2 = off + J2 := by omega
        go_wp2_with fail
        go_region
        have HU5 : Hid (UG w g off (swp e I2 J2) _) := Lib.hid (HSW.out 1)
        have hs5 : (swp e I2 J2).size = d.size := by rw [size_swp]; exact hse
        obtain ⟨e5, he5⟩ : ∃ z, swp e I2 J2 = z := ⟨_, rfl⟩
        rw [he5] at HU5 hs5 HS
        clear he5 HSW c1 c2 f1 f2 HU4 hse HI2 HJ2 HE HR hne hij
        go_wp2
        go_loopg [10, 11] (J2 - 1 + 1 - (I2 + 1)) (fun n s10 s11 wr => ∃ (i' j' : Nat) (e' : Array Int), s10 = .int .i64 i' ∧ s11 = .int .i64 j' ∧ a < i' ∧ i' ≤ j' + 1 ∧ j' < b ∧ j' + 1 - i' = n ∧ e'.size = d.size ∧ Hid (UG w g off e' wr) ∧ Hid (partLoop ltInt a i' j' e' = S))
        case atStart => exact ⟨I2 + 1, J2 - 1, e5, by go_num, by congr 1; omega, by omega, by omega, by omega, by omega, hs5, HU5, HS⟩
        case round =>
          clear HU5 HS hs5
          obtain ⟨i', j', e', rfl, rfl, hai, hij, hjb, hn, hse, HU, HO⟩ := hrel
          obtain ⟨I3, hI3⟩ : ∃ z, scanUp (fun x => ltInt x e'[a]!) e' j' i' = z := ⟨_, rfl⟩
          obtain ⟨J3, hJ3⟩ : ∃ z, scanDown (fun x => !ltInt x e'[a]!) e' I3 j' = z := ⟨_, rfl⟩
          have HI3 := Lib.hid hI3
          have HJ3 := Lib.hid hJ3
          clear hI3 hJ3 h1 h2 h3 h4 hgt hlt
          go_upto_block 6 with fail
          go_cut [10] (fun sv wc => sv = .int .i64 I3 ∧ i' ≤ I3 ∧ I3 ≤ j' + 1 ∧ Hid (UG w g off e' wc))
          case first =>
            go_wp2_with fail
            go_loopw [10] (fun iv wr => ∃ t : Nat, iv = .int .i64 t ∧ i' ≤ t ∧ t ≤ j' + 1 ∧ Hid (UG w g off e' wr) ∧ Hid (scanUp (fun x => ltInt x e'[a]!) e' j' t = I3)) (fun iv _ => j' + 1 - (intOf iv).toNat)
            case atStart => exact ⟨i', rfl, Nat.le_refl _, hij, HU, HI3⟩
            case round =>
              obtain ⟨t, rfl, hit, htj, HU2, HS⟩ := hrel
              by_cases hle : t ≤ j'
              · have c1 := HU2.out.cell HH.out hse (t := t) (by omega)
                have c2 := HU2.out.cell HH.out hse (t := a) (by omega)
                have HGO : Hid (ltInt e'[t]! e'[a]! = true → scanUp (fun x => ltInt x e'[a]!) e' j' (t + 1) = I3) := Lib.hid fun h => (scanUp_go (fun x => ltInt x e'[a]!) e' j' t hle h).symm.trans HS.out
                have HST : Hid (ltInt e'[t]! e'[a]! = false → t = I3) := Lib.hid fun h => (scanUp_end (fun x => ltInt x e'[a]!) e' j' t (.inr h)).symm.trans HS.out
                obtain ⟨x, hx⟩ : ∃ x, e'[t]! = x := ⟨_, rfl⟩
                obtain ⟨y, hy⟩ : ∃ y, e'[a]! = y := ⟨_, rfl⟩
                rw [hx] at c1 HGO HST
                rw [hy] at c2
                have HGO2 : Hid (ltInt x y = true → scanUp (fun x => ltInt x e'[a]!) e' j' (t + 1) = I3) := Lib.hid fun h => HGO.out (by rw [hy]; exact h)
                have HST2 : Hid (ltInt x y = false → t = I3) := Lib.hid fun h => HST.out (by rw [hy]; exact h)
                obtain ⟨lb, hlb⟩ : ∃ z, ltInt x y = z := ⟨_, rfl⟩
                have HLS := Lib.hid (u_Less x y)
                rw [hlb] at HLS HGO2 HST2
                have w5 : (t : Int) < (d.size : Int) := by omega
                have w6 : (a : Int) < (d.size : Int) := by omega
                have b1 : decide ((t : Int) ≤ (j' : Int)) = true := decide_eq_true (by omega)
                clear hx hy hlb HS HGO HST
                go_wp2_with fail
                go_quiet (first | (go_at_call 131; refine Calls.quiet_of_same (HLS.out _)))
                cases lb with
                | true =>
                  have HN := Lib.hid (HGO2.out rfl)
                  clear HGO2 HST2 HLS
                  go_wp2
                  exact ⟨⟨t + 1, by go_num, by omega, by omega, Lib.hid (HU2.out.drewN nq), HN⟩, by simp [intOf]; omega⟩
                | false =>
                  have HN := Lib.hid (HST2.out rfl)
                  clear HGO2 HST2 HLS c1 c2
                  obtain rfl := HN.out
                  go_wp2_with fail
                  go_meet
                  exact ⟨rfl, by omega, by omega, Lib.hid (HU2.out.drewN nq)⟩
              · have HN := Lib.hid ((scanUp_end (fun x => ltInt x e'[a]!) e' j' t (.inl hle)).symm.trans HS.out)
                have b1 : decide ((t : Int) ≤ (j' : Int)) = false := decide_eq_false (by omega)
                obtain rfl := HN.out
                go_wp2_with fail
                go_quiet (fail)
                go_wp2_with fail
                go_meet
                exact ⟨rfl, by omega, by omega, Lib.hid (HU2.out.drewN nq)⟩
          case rest =>
            obtain ⟨rfl, h1, h2, HU3⟩ := hcut
            clear HU
            go_upto_block 8 with fail
            go_cut [11] (fun sv wc => sv = .int .i64 J3 ∧ J3 ≤ j' ∧ I3 ≤ J3 + 1 ∧ Hid (UG w g off e' wc))
            case first =>
              go_wp2_with fail
              go_loopw [11] (fun iv wr => ∃ t : Nat, iv = .int .i64 t ∧ t ≤ j' ∧ I3 ≤ t + 1 ∧ Hid (UG w g off e' wr) ∧ Hid (scanDown (fun x => !ltInt x e'[a]!) e' I3 t = J3)) (fun iv _ => (intOf iv).toNat)
              case atStart => exact ⟨j', rfl, Nat.le_refl _, h2, HU3, HJ3⟩
              case round =>
                obtain ⟨t, rfl, htj, hit, HU2, HS⟩ := hrel
                by_cases hle : I3 ≤ t
                · have c1 := HU2.out.cell HH.out hse (t := t) (by omega)
                  have c2 := HU2.out.cell HH.out hse (t := a) (by omega)
                  have HGO : Hid (ltInt e'[t]! e'[a]! = false → scanDown (fun x => !ltInt x e'[a]!) e' I3 (t - 1) = J3) := Lib.hid fun h => (scanDown_go (fun x => !ltInt x e'[a]!) e' I3 t hle (by omega) (by rw [h]; rfl)).symm.trans HS.out
                  have HST : Hid (ltInt e'[t]! e'[a]! = true → t = J3) := Lib.hid fun h => (scanDown_end (fun x => !ltInt x e'[a]!) e' I3 t (.inr (by rw [h]; rfl))).symm.trans HS.out
                  obtain ⟨x, hx⟩ : ∃ x, e'[t]! = x := ⟨_, rfl⟩
                  obtain ⟨y, hy⟩ : ∃ y, e'[a]! = y := ⟨_, rfl⟩
                  rw [hx] at c1 HGO HST
                  rw [hy] at c2
                  have HGO2 : Hid (ltInt x y = false → scanDown (fun x => !ltInt x e'[a]!) e' I3 (t - 1) = J3) := Lib.hid fun h => HGO.out (by rw [hy]; exact h)
                  have HST2 : Hid (ltInt x y = true → t = J3) := Lib.hid fun h => HST.out (by rw [hy]; exact h)
                  obtain ⟨lb, hlb⟩ : ∃ z, ltInt x y = z := ⟨_, rfl⟩
                  have HLS := Lib.hid (u_Less x y)
                  rw [hlb] at HLS HGO2 HST2
                  have w5 : (t : Int) < (d.size : Int) := by omega
                  have w6 : (a : Int) < (d.size : Int) := by omega
                  have b1 : decide ((I3 : Int) ≤ (t : Int)) = true := decide_eq_true (by omega)
                  clear hx hy hlb HS HGO HST
                  go_wp2_with fail
                  go_quiet (first | (go_at_call 131; refine Calls.quiet_of_same (HLS.out _)))
                  cases lb with
                  | false =>
                    have HN := Lib.hid (HGO2.out rfl)
                    clear HGO2 HST2 HLS
                    go_wp2
                    exact ⟨⟨t - 1, by go_num, by omega, by omega, Lib.hid (HU2.out.drewN nq), HN⟩, by simp [intOf]; omega⟩
                  | true =>
                    have HN := Lib.hid (HST2.out rfl)
                    clear HGO2 HST2 HLS c1 c2
                    obtain rfl := HN.out
                    go_wp2_with fail
                    go_meet
                    exact ⟨rfl, by omega, by omega, Lib.hid (HU2.out.drewN nq)⟩
                · have HN := Lib.hid ((scanDown_end (fun x => !ltInt x e'[a]!) e' I3 t (.inl hle)).symm.trans HS.out)
                  have b1 : decide ((I3 : Int) ≤ (t : Int)) = false := decide_eq_false (by omega)
                  obtain rfl := HN.out
                  go_wp2_with fail
                  go_quiet (fail)
                  go_wp2_with fail
                  go_meet
                  exact ⟨rfl, by omega, by omega, Lib.hid (HU2.out.drewN nq)⟩
            case rest =>
              obtain ⟨rfl, h3, h4, HU4⟩ := hcut
              clear HU3
              by_cases hgt : J3 < I3
              · have HB : Hid (S = (J3, e')) := Lib.hid (by rw [← HO.out]; exact part_break ltInt a i' j' e' HI3.out.symm HJ3.out.symm hgt)
                have HF2 : Hid (R = (J3, false, swp e' J3 a)) := Lib.hid (by rw [HF.out, HB.out])
                have c1 := HU4.out.cell HH.out hse (t := J3) (by omega)
                have c2 := HU4.out.cell HH.out hse (t := a) (by omega)
                have f1 := HU4.out.frozen HH.out hse (t := J3) (by omega)
                have f2 := HU4.out.frozen HH.out hse (t := a) (by omega)
                have HSW := Lib.hid (fun q => HU4.out.swap q (j := J3) (k := a) (by omega) (by omega))
                obtain ⟨x, hx⟩ : ∃ x, e'[J3]! = x := ⟨_, rfl⟩
                obtain ⟨y, hy⟩ : ∃ y, e'[a]! = y := ⟨_, rfl⟩
                rw [hx] at c1 HSW
                rw [hy] at c2 HSW
                clear hx hy
                have w5 : (J3 : Int) < (d.size : Int) := by omega
                have w6 : (a : Int) < (d.size : Int) := by omega
                obtain ⟨v3, hy3⟩ := cell?_setCell_some (p := ⟨g, off + J3, none⟩) (x := .int .u32 y) (q := ⟨g, off + a, none⟩) c2
                go_wp2_with fail
                go_region
                all_goals go_wp2
                all_goals go_ret2
                all_goals exact PartUG.mk HF2.out (HSW.out 1)
              · have hlt : I3 < J3 := part_scans_lt ltInt a i' j' e' (by omega) HI3.out.symm HJ3.out.symm (by omega)
                have HN : Hid (partLoop ltInt a (I3 + 1) (J3 - 1) (swp e' I3 J3) = S) := Lib.hid (by rw [← HO.out]; exact (part_go ltInt a i' j' e' HI3.out.symm HJ3.out.symm (by omega)).symm)
                have c1 := HU4.out.cell HH.out hse (t := I3) (by omega)
                have c2 := HU4.out.cell HH.out hse (t := J3) (by omega)
                have f1 := HU4.out.frozen HH.out hse (t := I3) (by omega)
                have f2 := HU4.out.frozen HH.out hse (t := J3) (by omega)
                have HSW := Lib.hid (fun q => HU4.out.swap q (j := I3) (k := J3) (by omega) (by omega))
                obtain ⟨x, hx⟩ : ∃ x, e'[I3]! = x := ⟨_, rfl⟩
                obtain ⟨y, hy⟩ : ∃ y, e'[J3]! = y := ⟨_, rfl⟩
                rw [hx] at c1 HSW
                rw [hy] at c2 HSW
                clear hx hy
                have w5 : (I3 : Int) < (d.size : Int) := by omega
                have w6 : (J3 : Int) < (d.size : Int) := by omega
                have hne : ¬ off + I3 = off + J3 := by omega
                go_wp2_with fail
                go_region
                all_goals go_wp2
                all_goals go_roundg (J3 - 1 + 1 - (I3 + 1))
                case measure => omega
                case rel => exact ⟨I3 + 1, J3 - 1, swp e' I3 J3, by go_num, by congr 1; omega, by omega, by omega, by omega, rfl, by rw [size_swp]; exact hse, Lib.hid (HSW.out 1), HN⟩
end Go.Proofs.YtgheloooibafcaaGreatDoor

namespace Go.Proofs.YtgheloooibafcaaGreatDoor
open Go.RowKit Go.Sort

/-! ### The callees, from a world in which the row has been changed -/
section
variable {w W : World} {g off : Nat} {d e : Array Int}
theorem k_ins (cap a b : Nat) (hU : UG w g off e W) (hH : Holds eU w g off d) (hs : e.size = d.size) (hab : a ≤ b) (hb : b ≤ d.size) (hsz : d.size ≤ 1000000) :
    Calls Tryz.prog 125 #[.slice (some ⟨g, off, none⟩) d.size cap, .int .i64 a, .int .i64 b] W fun r w' => r = .returned (.tuple #[]) ∧ UG w g off (Sort.insertionSort ltInt e a b) w' := by
  have h := u_insertion g off cap a b e W (hU.holds hH hs) hab (by omega) (by omega)
  rw [hs] at h
  exact h.mono fun r w' ⟨h1, h2⟩ => ⟨h1, hU.trans (UG.ofRow h2) (insertionSort_holds swo_ltInt e a b hab (by omega)).1.1⟩
theorem k_heap (cap a b : Nat) (hU : UG w g off e W) (hH : Holds eU w g off d) (hs : e.size = d.size) (hab : a < b) (hb : b ≤ d.size) (hsz : d.size ≤ 1000000) :
    Calls Tryz.prog 126 #[.slice (some ⟨g, off, none⟩) d.size cap, .int .i64 a, .int .i64 b] W fun r w' => r = .returned (.tuple #[]) ∧ UG w g off (Sort.heapSort ltInt e a b) w' := by
  have h := u_heap g off cap a b e W W (hU.holds hH hs) e rfl ⟨0, (putRow_self _ _ _ _ _ (hU.holds hH hs)).symm⟩ hab (by omega) (by omega)
  rw [hs] at h
  exact h.mono fun r w' ⟨h1, h2⟩ => ⟨h1, hU.trans (UG.ofRow h2) (heapSort_holds swo_ltInt e a b (by omega) (by omega)).1.1⟩
theorem k_break (cap a b : Nat) (hU : UG w g off e W) (hH : Holds eU w g off d) (hs : e.size = d.size) (hg : g < w.heap.size) (hab : a ≤ b) (hb : b ≤ d.size) (hsz : d.size ≤ 1000000) :
    Calls Tryz.prog 127 #[.slice (some ⟨g, off, none⟩) d.size cap, .int .i64 a, .int .i64 b] W fun r w' => r = .returned (.tuple #[]) ∧ UG w g off (breakPatterns e a b) w' := by
  have h := u_break g off cap a b e W (hU.holds hH hs) (hU.lt hg) hab (by omega) (by omega)
  rw [hs] at h
  exact h.mono fun r w' ⟨h1, h2⟩ => ⟨h1, hU.trans h2 (breakPatterns_holds e a b hab (by omega)).1⟩
theorem k_rev (cap a b : Nat) (hU : UG w g off e W) (hH : Holds eU w g off d) (hs : e.size = d.size) (hab : a < b) (hb : b ≤ d.size) (hsz : d.size ≤ 1000000) :
    Calls Tryz.prog 129 #[.slice (some ⟨g, off, none⟩) d.size cap, .int .i64 a, .int .i64 b] W fun r w' => r = .returned (.tuple #[]) ∧ UG w g off (Sort.reverseRange e a b) w' := by
  have h := u_reverse g off cap a b e W (hU.holds hH hs) hab (by omega) (by omega)
  rw [hs] at h
  exact h.mono fun r w' ⟨h1, h2⟩ => ⟨h1, hU.trans (UG.ofRow h2) (reverseRange_holds e a b (by omega) (by omega)).1⟩
theorem k_pivot (cap a b : Nat) (hU : UG w g off e W) (hH : Holds eU w g off d) (hs : e.size = d.size) (hg : g < w.heap.size) (hab : a < b) (hb : b ≤ d.size) (hsz : d.size ≤ 1000000) :
    Calls Tryz.prog 128 #[.slice (some ⟨g, off, none⟩) d.size cap, .int .i64 a, .int .i64 b] W fun r w' => r = .returned (.tuple #[.int .i64 (choosePivot ltInt e a b).1, .int .i64 (hintCode (choosePivot ltInt e a b).2)]) ∧ UG w g off e w' := by
  have h := u_pivot g off cap a b e W (hU.holds hH hs) (hU.lt hg) hab (by omega) (by omega)
  rw [hs] at h
  exact h.mono fun r w' ⟨h1, h2⟩ => ⟨h1, hU.same h2 hg⟩
theorem k_partial (cap a b : Nat) (hU : UG w g off e W) (hH : Holds eU w g off d) (hs : e.size = d.size) (hab : a < b) (hb : b ≤ d.size) (hsz : d.size ≤ 1000000) (hp : (partialInsertionSort ltInt e a b).1.size = e.size) :
    Calls Tryz.prog 130 #[.slice (some ⟨g, off, none⟩) d.size cap, .int .i64 a, .int .i64 b] W fun r w' => r = .returned (.bool (partialInsertionSort ltInt e a b).2) ∧ UG w g off (partialInsertionSort ltInt e a b).1 w' := by
  have h := u_partial g off cap a b e W (hU.holds hH hs) hab (by omega) (by omega)
  rw [hs] at h
  exact h.mono fun r w' ⟨h1, h2⟩ => ⟨h1, hU.trans h2 hp⟩
theorem k_partEq (cap a b pivot : Nat) (hU : UG w g off e W) (hH : Holds eU w g off d) (hs : e.size = d.size) (hap : a ≤ pivot) (hpb : pivot < b) (hb : b ≤ d.size) (hsz : d.size ≤ 1000000) {mid : Nat} {f : Array Int} (hx : partitionEqual ltInt e a b pivot = (mid, f)) (hf : f.size = e.size) :
    Calls Tryz.prog 132 #[.slice (some ⟨g, off, none⟩) d.size cap, .int .i64 a, .int .i64 b, .int .i64 pivot] W fun r w' => r = .returned (.int .i64 mid) ∧ UG w g off f w' := by
  have h := u_partEq g off cap a b pivot e W (hU.holds hH hs) hap hpb (by omega) (by omega)
  rw [hs, hx] at h
  exact h.mono fun r w' ⟨h1, h2⟩ => ⟨h1, hU.trans h2 hf⟩
theorem k_part (cap a b pivot : Nat) (hU : UG w g off e W) (hH : Holds eU w g off d) (hs : e.size = d.size) (hap : a ≤ pivot) (hpb : pivot < b) (hb : b ≤ d.size) (hsz : d.size ≤ 1000000) {mid : Nat} {ap : Bool} {f : Array Int} (hx : partition ltInt e a b pivot = (mid, ap, f)) (hf : f.size = e.size) :
    Calls Tryz.prog 133 #[.slice (some ⟨g, off, none⟩) d.size cap, .int .i64 a, .int .i64 b, .int .i64 pivot] W fun r w' => r = .returned (.tuple #[.int .i64 mid, .bool ap]) ∧ UG w g off f w' := by
  have h := u_part g off cap a b pivot e W (hU.holds hH hs) hap hpb (by omega) (by omega)
  rw [hs, hx] at h
  exact h.mono fun r w' ⟨h1, h2⟩ => ⟨h1, hU.trans h2 hf⟩
end

theorem hint_two {h : Hint} (e : hintCode h = 2) : h = .decreasing := by cases h <;> simp [hintCode] at e ⊢
theorem eighths {x y p q : Nat} (h1 : q ≤ p) (h2 : y ≤ x) : decide (((x : Int) - (y : Int)) / 8 ≤ (p : Int) - (q : Int)) = decide (p - q ≥ (x - y) / 8) := decide_eq_decide.2 ⟨fun h => by omega, fun h => by omega⟩

/-- What the recursion knows of itself. -/
def PdqOk (N : Nat) : Prop := ∀ (g off cap a b limit : Nat) (d : Array Int) (w : World), b - a < N → Holds eU w g off d → g < w.heap.size → a ≤ b → b ≤ d.size → d.size ≤ 1000000 → limit ≤ 1000000 → Below ltInt a b d →
    Calls Tryz.prog 86 #[.slice (some ⟨g, off, none⟩) d.size cap, .int .i64 a, .int .i64 b, .int .i64 limit] w fun e w' => e = .returned (.tuple #[]) ∧ UG w g off (pdq ltInt d a b limit true true) w'
theorem k_pdq {N : Nat} (ih : PdqOk N) {w W : World} {g off : Nat} {d e : Array Int} (cap a b limit : Nat) (hU : UG w g off e W) (hH : Holds eU w g off d) (hs : e.size = d.size) (hg : g < w.heap.size) (hN : b - a < N) (hab : a ≤ b) (hb : b ≤ d.size) (hsz : d.size ≤ 1000000) (hl : limit ≤ 1000000) (hB : Below ltInt a b e) :
    Calls Tryz.prog 86 #[.slice (some ⟨g, off, none⟩) d.size cap, .int .i64 a, .int .i64 b, .int .i64 limit] W fun r w' => r = .returned (.tuple #[]) ∧ UG w g off (pdq ltInt e a b limit true true) w' := by
  have h := ih g off cap a b limit e W hN (hU.holds hH hs) (hU.lt hg) hab (by omega) (by omega) hl hB
  rw [hs] at h
  exact h.mono fun r w' ⟨h1, h2⟩ => ⟨h1, hU.trans h2 (pdq_sorts ltInt swo_ltInt e a b limit true true hab (by omega) hB).1.1⟩

set_option maxHeartbeats 16000000 in
set_option maxRecDepth 1000000 in
theorem pdq_step (N : Nat) (ih : PdqOk N) : PdqOk (N + 1) := by
  intro g off cap a b limit d w hN hH hg hab hb hsz hlimit hB0
  have HH := Lib.hid hH
  have HI := Lib.hid ih
  have HU0 := Lib.hid (UG.refl hH)
  have HB0 := Lib.hid hB0
  obtain ⟨R, hR⟩ : ∃ R, pdq ltInt d a b limit true true = R := ⟨_, rfl⟩
  have HR := Lib.hid hR
  rw [hR]
  clear hH ih hB0 hR
  go_enter Tryz.func86, Tryz.ntmps86
  go_wp2
  go_loopg [1, 2, 3, 8, 9] (b - a) (fun k s1 s2 s3 s8 s9 wr => ∃ (a' b' lim : Nat) (wb wp : Bool) (e : Array Int), s1 = .int .i64 a' ∧ s2 = .int .i64 b' ∧ s3 = .int .i64 lim ∧ s8 = .bool wb ∧ s9 = .bool wp ∧
    a' ≤ b' ∧ b' ≤ d.size ∧ b' - a' ≤ k ∧ k ≤ b - a ∧ lim ≤ limit ∧ e.size = d.size ∧ Hid (Below ltInt a' b' e) ∧ Hid (UG w g off e wr) ∧ Hid (pdq ltInt e a' b' lim wb wp = R))
  case atStart => exact ⟨a, b, limit, true, true, d, rfl, rfl, rfl, rfl, rfl, hab, hb, Nat.le_refl _, Nat.le_refl _, Nat.le_refl _, rfl, HB0, HU0, HR⟩
  case round =>
    clear HU0 HB0 HR
    obtain ⟨a', b', lim, wb, wp, e, rfl, rfl, rfl, rfl, rfl, hab', hb', hk, hkN, hlim, hse, HB, HU, HQ⟩ := hrel
    by_cases h12 : b' - a' ≤ 12
    · have hc := Lib.hid (k_ins cap a' b' HU.out HH.out hse hab' hb' hsz)
      have HF : Hid (Sort.insertionSort ltInt e a' b' = R) := Lib.hid (by rw [← HQ.out, pdq_small h12])
      have z12 : (b' : Int) - (a' : Int) ≤ 12 := by omega
      go_wp2_with fail
      refine hc.out.mono ?_
      rintro r w1 ⟨rfl, hw1⟩
      have HW := Lib.hid hw1
      clear hw1
      go_wp2_with fail
      (try simp only [Exit.inBlock, Exit.then])
      refine bodyPost_ret (results_none rfl _ _ _) rfl ?_
      exact ⟨rfl, by rw [← HF.out]; exact HW.out⟩
    · have z12 : ¬ (b' : Int) - (a' : Int) ≤ 12 := by omega
      by_cases hl0 : lim = 0
      · subst hl0
        have hc := Lib.hid (k_heap cap a' b' HU.out HH.out hse (by omega) hb' hsz)
        have HF : Hid (Sort.heapSort ltInt e a' b' = R) := Lib.hid (by rw [← HQ.out, pdq_heap h12 rfl])
        go_wp2_with fail
        refine hc.out.mono ?_
        rintro r w1 ⟨rfl, hw1⟩
        have HW := Lib.hid hw1
        clear hw1
        go_wp2_with fail
        (try simp only [Exit.inBlock, Exit.then])
        refine bodyPost_ret (results_none rfl _ _ _) rfl ?_
        exact ⟨rfl, by rw [← HF.out]; exact HW.out⟩
      · have zl0 : ((lim : Int) == 0) = false := by simp; omega
        obtain ⟨D, hD⟩ : ∃ D, rd ltInt e a' b' lim wb wp = D := ⟨_, rfl⟩
        obtain ⟨s1, B1, hc1, s2, B2, hpv, s3, B3⟩ := rd_facts (limit := lim) (wb := wb) (wp := wp) swo_ltInt partialInsertionSort_holds reverseRange_holds (show a' < b' by omega) (show b' ≤ e.size by omega) HB.out
        have hll : D.lim ≤ lim := by rw [← hD]; exact rd_lim_le
        have HBRK : Hid (wb = false → D.d1 = breakPatterns e a' b' ∧ D.lim = lim - 1) := Lib.hid fun h => by subst h; rw [← hD]; exact rd_false
        have HNBR : Hid (wb = true → D.d1 = e ∧ D.lim = lim) := Lib.hid fun h => by subst h; rw [← hD]; exact rd_true
        have HC : Hid (choosePivot ltInt D.d1 a' b' = D.c) := Lib.hid (by rw [← hD]; exact rd_c.symm)
        have HDEC : Hid (D.c.2 = .decreasing → D.d2 = reverseRange D.d1 a' b' ∧ D.pivot = (b' - 1) - (D.c.1 - a') ∧ D.hint = .increasing) := Lib.hid fun h => by rw [← hD] at h ⊢; exact rd_dec h
        have HNDE : Hid (D.c.2 ≠ .decreasing → D.d2 = D.d1 ∧ D.pivot = D.c.1 ∧ D.hint = D.c.2) := Lib.hid fun h => by rw [← hD] at h ⊢; exact rd_not h
        have HPY : Hid ((wb && wp && decide (D.hint = .increasing)) = true → D.pi = partialInsertionSort ltInt D.d2 a' b') := Lib.hid fun h => by rw [← hD] at h ⊢; exact rd_pi_yes h
        have HPN : Hid ((wb && wp && decide (D.hint = .increasing)) = false → D.pi = (D.d2, false)) := Lib.hid fun h => by rw [← hD] at h ⊢; exact rd_pi_no h
        have HDONE : Hid (D.pi.2 = true → D.pi.1 = R) := Lib.hid fun h => by rw [← HQ.out]; rw [← hD] at h ⊢; exact (pdq_done h12 hl0 h).symm
        have HEQ : Hid (∀ mid f, D.pi.2 = false → (decide (a' > 0) && !ltInt D.pi.1[a' - 1]! D.pi.1[D.pivot]!) = true → partitionEqual ltInt D.pi.1 a' b' D.pivot = (mid, f) → a' < mid ∧ mid ≤ b' → pdq ltInt f mid b' D.lim wb wp = R) := Lib.hid fun mid f h1 h2 h3 h4 => by
          rw [← HQ.out]; rw [← hD] at h1 h2 h3 ⊢
          rw [pdq_eq h12 hl0 h1 h2 (by rw [h3]; exact h4), h3]
        have HLE : Hid (∀ mid ap f, D.pi.2 = false → (decide (a' > 0) && !ltInt D.pi.1[a' - 1]! D.pi.1[D.pivot]!) = false → partition ltInt D.pi.1 a' b' D.pivot = (mid, ap, f) → a' ≤ mid ∧ mid < b' → mid - a' < b' - mid → pdq ltInt (pdq ltInt f a' mid D.lim true true) (mid + 1) b' D.lim (decide (mid - a' ≥ (b' - a') / 8)) ap = R) := Lib.hid fun mid ap f h1 h2 h3 h4 h5 => by
          rw [← HQ.out]; rw [← hD] at h1 h2 h3 ⊢
          rw [pdq_left h12 hl0 h1 h2 (by rw [h3]; exact h4) (by rw [h3]; exact h5), h3]
        have HRI : Hid (∀ mid ap f, D.pi.2 = false → (decide (a' > 0) && !ltInt D.pi.1[a' - 1]! D.pi.1[D.pivot]!) = false → partition ltInt D.pi.1 a' b' D.pivot = (mid, ap, f) → a' ≤ mid ∧ mid < b' → ¬ mid - a' < b' - mid → pdq ltInt (pdq ltInt f (mid + 1) b' D.lim true true) a' mid D.lim (decide (b' - mid ≥ (b' - a') / 8)) ap = R) := Lib.hid fun mid ap f h1 h2 h3 h4 h5 => by
          rw [← HQ.out]; rw [← hD] at h1 h2 h3 ⊢
          rw [pdq_right h12 hl0 h1 h2 (by rw [h3]; exact h4) (by rw [h3]; exact h5), h3]
        rw [hD] at s1 B1 hc1 s2 B2 hpv s3 B3
        have HB3 := Lib.hid B3
        clear hD B1 B2 B3 HQ HB
        obtain ⟨d1, l1, ⟨p0, h0⟩, d2, pv, hi, ⟨d3, pb⟩⟩ := D
        dsimp only at s1 hc1 s2 hpv s3 hll HBRK HNBR HC HDEC HNDE HPY HPN HDONE HEQ HLE HRI HB3
        have hs1 : d1.size = d.size := s1.trans hse
        have hs2 : d2.size = d.size := s2.trans hse
        have hs3 : d3.size = d.size := s3.trans hse
        have q0 : hintCode .unknown = 0 := rfl
        have q1 : hintCode .increasing = 1 := rfl
        have q2 : hintCode .decreasing = 2 := rfl
        clear s1 s2 s3
        go_upto_if 35 with fail
        go_cut [3] (fun s3 wc => s3 = .int .i64 l1 ∧ Hid (UG w g off d1 wc))
        case first =>
          cases wb
          · have EB := Lib.hid (HBRK.out rfl)
            clear HBRK HNBR
            have hc := Lib.hid (k_break cap a' b' HU.out HH.out hse hg hab' hb' hsz)
            go_wp2_with fail
            refine hc.out.mono ?_
            rintro r w1 ⟨rfl, hw1⟩
            have HW := Lib.hid hw1
            clear hw1
            go_wp2_with fail
            go_meet
            exact ⟨by rw [EB.out.2]; congr 1; omega, Lib.hid (by rw [EB.out.1]; exact HW.out)⟩
          · have EB := Lib.hid (HNBR.out rfl)
            clear HBRK HNBR
            go_wp2_with fail
            go_meet
            exact ⟨by rw [EB.out.2], Lib.hid (by rw [EB.out.1]; exact HU.out)⟩
        case rest =>
          obtain ⟨rfl, HU1⟩ := hcut
          clear HU HBRK HNBR
          have hc17 := Lib.hid (k_pivot cap a' b' HU1.out HH.out hs1 hg (by omega) hb' hsz)
          rw [HC.out] at hc17
          go_upto_if 50 with (go_at_call 128; refine hc17.out.mono ?_; rintro r w2 ⟨rfl, hw2⟩)
          have HU2 := Lib.hid hw2
          clear hw2 hc17 HU1 HC
          go_cut [11, 12] (fun s11 s12 wc => s11 = .int .i64 pv ∧ s12 = .int .i64 (hintCode hi) ∧ Hid (UG w g off d2 wc))
          case first =>
            by_cases hh : h0 = .decreasing
            · have HD3 := Lib.hid (HDEC.out hh)
              subst hh
              have hc18 := Lib.hid (k_rev cap a' b' HU2.out HH.out hs1 (by omega) hb' hsz)
              go_wp2_with fail
              refine hc18.out.mono ?_
              rintro r w3 ⟨rfl, hw3⟩
              have HW := Lib.hid hw3
              clear hw3
              go_wp2_with fail
              go_meet
              exact ⟨by rw [HD3.out.2.1]; congr 1; omega, by rw [HD3.out.2.2]; rfl, Lib.hid (by rw [HD3.out.1]; exact HW.out)⟩
            · have HD3 := Lib.hid (HNDE.out hh)
              have hcode : ¬ hintCode h0 = 2 := fun h => hh (hint_two h)
              have hcode2 : (hintCode h0 == 2) = false := by simp [hcode]
              go_wp2_with fail
              go_meet
              exact ⟨by rw [HD3.out.2.1], by rw [HD3.out.2.2], Lib.hid (by rw [HD3.out.1]; exact HU2.out)⟩
          case rest =>
            obtain ⟨rfl, rfl, HU3⟩ := hcut
            clear HU2 HDEC HNDE hc1
            obtain ⟨tt, htt⟩ : ∃ z, (wb && wp && decide (hi = .increasing)) = z := ⟨_, rfl⟩
            have HTT := Lib.hid htt
            clear htt
            go_upto_region 15 with fail
            go_cut [68] (fun s68 wx => s68 = .bool tt ∧ wx = wc)
            case first =>
              cases wb <;> cases wp <;> cases hi <;>
                (go_wp2_with fail
                 go_meet
                 exact ⟨by rw [← HTT.out]; rfl, rfl⟩)
            case rest =>
              obtain ⟨rfl, rfl⟩ := hcut
              go_upto_if 68 with fail
              go_cut [] (fun wx => pb = false ∧ Hid (UG w g off d3 wx))
              case first =>
                cases tt with
                | false =>
                  have EPI := Lib.hid (HPN.out HTT.out)
                  go_wp2_with fail
                  go_meet
                  exact ⟨congrArg Prod.snd EPI.out, Lib.hid (by rw [show d3 = d2 from congrArg Prod.fst EPI.out]; exact HU3.out)⟩
                | true =>
                  have epi := HPY.out HTT.out
                  have hc19 := k_partial cap a' b' HU3.out HH.out hs2 (by omega) hb' hsz (by rw [← epi]; exact hs3.trans hs2.symm)
                  rw [← epi] at hc19
                  have HC19 := Lib.hid hc19
                  clear epi hc19
                  cases pb with
                  | false =>
                    go_wp2_with fail
                    refine HC19.out.mono ?_
                    rintro r w4 ⟨rfl, hw4⟩
                    have HW := Lib.hid hw4
                    clear hw4
                    go_wp2_with fail
                    go_meet
                    exact ⟨trivial, HW⟩
                  | true =>
                    have HF := Lib.hid (HDONE.out rfl)
                    go_wp2_with fail
                    refine HC19.out.mono ?_
                    rintro r w4 ⟨rfl, hw4⟩
                    have HW := Lib.hid hw4
                    clear hw4
                    go_wp2_with fail
                    (try simp only [Exit.inBlock, Exit.then])
                    refine bodyPost_ret (results_none rfl _ _ _) rfl ?_
                    exact ⟨rfl, by rw [← HF.out]; exact HW.out⟩
              case rest =>
                obtain ⟨rfl, HU5⟩ := hcut
                clear HU3 HPY HPN HDONE HTT
                have HEQ2 := Lib.hid (fun mid f => HEQ.out mid f rfl)
                have HLE2 := Lib.hid (fun mid ap f => HLE.out mid ap f rfl)
                have HRI2 := Lib.hid (fun mid ap f => HRI.out mid ap f rfl)
                clear HEQ HLE HRI
                obtain ⟨ts, hts⟩ : ∃ z, (decide (a' > 0) && !ltInt d3[a' - 1]! d3[pv]!) = z := ⟨_, rfl⟩
                have HTS := Lib.hid hts
                rw [hts] at HEQ2 HLE2 HRI2
                clear hts
                go_upto_region 17 with fail
                go_cut [87] (fun s87 wx => s87 = .bool ts ∧ Hid (UG w g off d3 wx))
                case first =>
                  rcases Nat.eq_zero_or_pos a' with ha0 | ha0
                  · have b0 : decide ((a' : Int) > 0) = false := decide_eq_false (by omega)
                    have b1 : decide ((0 : Int) < (a' : Int)) = false := decide_eq_false (by omega)
                    have HT : Hid (ts = false) := Lib.hid (by rw [← HTS.out, show decide (a' > 0) = false from decide_eq_false (by omega)]; rfl)
                    go_quiet (fail)
                    go_wp2_with fail
                    go_meet
                    exact ⟨by rw [HT.out], Lib.hid (HU5.out.drewN nq)⟩
                  · have b0 : decide ((a' : Int) > 0) = true := decide_eq_true (by omega)
                    have b1 : decide ((0 : Int) < (a' : Int)) = true := decide_eq_true (by omega)
                    have c1 := HU5.out.cell HH.out hs3 (t := a' - 1) (by omega)
                    have c2 := HU5.out.cell HH.out hs3 (t := pv) (by omega)
                    obtain ⟨x, hx⟩ : ∃ x, d3[a' - 1]! = x := ⟨_, rfl⟩
                    obtain ⟨y, hy⟩ : ∃ y, d3[pv]! = y := ⟨_, rfl⟩
                    obtain ⟨lb, hlb⟩ : ∃ z, ltInt x y = z := ⟨_, rfl⟩
                    have HLS := Lib.hid (u_Less x y)
                    have HT : Hid (ts = !lb) := Lib.hid (by rw [← HTS.out, show decide (a' > 0) = true from decide_eq_true (by omega), hx, hy, hlb]; rfl)
                    rw [hx] at c1
                    rw [hy] at c2
                    rw [hlb] at HLS
                    have v1 : IntKind.i64.wrap ((a' : Int) - 1) = (a' : Int) - 1 := IntWalk.i64_in _ (by omega)
                    have v2 : ((a' : Int) - 1).toNat = a' - 1 := by omega
                    have w3 : (0 : Int) ≤ (a' : Int) - 1 := by omega
                    have w4 : (a' : Int) - 1 < (d.size : Int) := by omega
                    have w5 : (pv : Int) < (d.size : Int) := by omega
                    clear hx hy hlb
                    go_quiet (first | (go_at_call 131; refine Calls.quiet_of_same (HLS.out _)))
                    go_wp2_with fail
                    go_meet
                    exact ⟨by rw [HT.out], Lib.hid (HU5.out.drewN nq)⟩
                case rest =>
                  obtain ⟨rfl, HU6⟩ := hcut
                  clear HU5
                  cases ts with
                  | false =>
                    obtain ⟨mid, ap, f, hx⟩ : ∃ mid ap f, partition ltInt d3 a' b' pv = (mid, ap, f) := ⟨_, _, _, rfl⟩
                    obtain ⟨r1, r2, r3, r4, r5, r6, r7⟩ := round_part swo_ltInt (partition_holds _) hpv.1 hpv.2 (show b' ≤ d3.size by omega) HB3.out hx
                    have hc22 := Lib.hid (k_part cap a' b' pv HU6.out HH.out hs3 hpv.1 hpv.2 hb' hsz hx r3)
                    have hsf : f.size = d.size := r3.trans hs3
                    have HL2 := Lib.hid (HLE2.out mid ap f rfl hx ⟨r1, r2⟩)
                    have HR2 := Lib.hid (HRI2.out mid ap f rfl hx ⟨r1, r2⟩)
                    have R4 := Lib.hid r4
                    have R5 := Lib.hid r5
                    have R6 := Lib.hid r6
                    have R7 := Lib.hid r7
                    clear hx HTS HLE2 HRI2 HEQ2 r3 r4 r5 r6 r7
                    go_upto_if 113 with (go_at_call 133; refine hc22.out.mono ?_; rintro r w7 ⟨rfl, hw7⟩)
                    have HU7 := Lib.hid hw7
                    clear hw7 hc22 HU6
                    by_cases h4 : mid - a' < b' - mid
                    · have z4 : (mid : Int) - (a' : Int) < (b' : Int) - (mid : Int) := by omega
                      obtain ⟨pL, sL⟩ := pdq_sorts ltInt swo_ltInt f a' mid l1 true true (by omega) (by omega) R4.out
                      have HQ2 := Lib.hid (HL2.out h4)
                      have hih := Lib.hid (k_pdq HI.out cap a' mid l1 HU7.out HH.out hsf hg (by omega) (by omega) (by omega) hsz (by omega) R4.out)
                      have HBN := Lib.hid (R6.out _ pL sL).1
                      obtain ⟨fL, hfL⟩ : ∃ z, pdq ltInt f a' mid l1 true true = z := ⟨_, rfl⟩
                      rw [hfL] at hih HQ2 pL HBN
                      have hsL : fL.size = d.size := pL.1.trans hsf
                      clear hfL pL sL HL2 HR2 R4 R5 R6 R7
                      go_wp2_with fail
                      refine hih.out.mono ?_
                      rintro r w8 ⟨rfl, hw8⟩
                      have HU8 := Lib.hid hw8
                      clear hw8 hih HU7
                      go_wp2_with fail
                      go_roundg (b' - (mid + 1))
                      case measure => omega
                      case rel => exact ⟨mid + 1, b', l1, decide (mid - a' ≥ (b' - a') / 8), ap, fL, by go_num, rfl, rfl, congrArg Value.bool (eighths (by omega) (by omega)), rfl, by omega, by omega, Nat.le_refl _, by omega, by omega, hsL, HBN, HU8, HQ2⟩
                    · have z4 : ¬ (mid : Int) - (a' : Int) < (b' : Int) - (mid : Int) := by omega
                      obtain ⟨pL, sL⟩ := pdq_sorts ltInt swo_ltInt f (mid + 1) b' l1 true true (by omega) (by omega) R5.out
                      have HQ2 := Lib.hid (HR2.out h4)
                      have hih := Lib.hid (k_pdq HI.out cap (mid + 1) b' l1 HU7.out HH.out hsf hg (by omega) (by omega) (by omega) hsz (by omega) R5.out)
                      rw [show ((mid + 1 : Nat) : Int) = (mid : Int) + 1 by omega] at hih
                      have HBN := Lib.hid (R7.out _ pL sL).1
                      obtain ⟨fL, hfL⟩ : ∃ z, pdq ltInt f (mid + 1) b' l1 true true = z := ⟨_, rfl⟩
                      rw [hfL] at hih HQ2 pL HBN
                      have hsL : fL.size = d.size := pL.1.trans hsf
                      clear hfL pL sL HL2 HR2 R4 R5 R6 R7
                      go_wp2_with fail
                      refine hih.out.mono ?_
                      rintro r w8 ⟨rfl, hw8⟩
                      have HU8 := Lib.hid hw8
                      clear hw8 hih HU7
                      go_wp2_with fail
                      go_roundg (mid - a')
                      case measure => omega
                      case rel => exact ⟨a', mid, l1, decide (b' - mid ≥ (b' - a') / 8), ap, fL, rfl, rfl, rfl, congrArg Value.bool (eighths (by omega) (by omega)), rfl, by omega, by omega, Nat.le_refl _, by omega, by omega, hsL, HBN, HU8, HQ2⟩
                  | true =>
                    have hts2 := HTS.out
                    simp only [Bool.and_eq_true, decide_eq_true_eq, Bool.not_eq_true'] at hts2
                    obtain ⟨mid, f, hx⟩ : ∃ mid f, partitionEqual ltInt d3 a' b' pv = (mid, f) := ⟨_, _, rfl⟩
                    obtain ⟨r1, r2, r3, r4, _⟩ := round_eq swo_ltInt (partitionEqual_holds _) hts2.1 hpv.1 hpv.2 (show b' ≤ d3.size by omega) HB3.out hts2.2 hx
                    have hc21 := Lib.hid (k_partEq cap a' b' pv HU6.out HH.out hs3 hpv.1 hpv.2 hb' hsz hx r3)
                    have hsf : f.size = d.size := r3.trans hs3
                    have HQ2 := Lib.hid (HEQ2.out mid f rfl hx ⟨r1, r2⟩)
                    have HBN := Lib.hid r4
                    clear hx HTS HLE2 HRI2 HEQ2 r3 r4 hts2
                    go_wp2_with fail
                    refine hc21.out.mono ?_
                    rintro r w7 ⟨rfl, hw7⟩
                    have HU7 := Lib.hid hw7
                    clear hw7 hc21 HU6
                    go_wp2_with fail
                    go_roundg (b' - mid)
                    case measure => omega
                    case rel => exact ⟨mid, b', l1, wb, wp, f, rfl, rfl, rfl, rfl, rfl, r2, hb', Nat.le_refl _, by omega, by omega, hsf, HBN, HU7, HQ2⟩
theorem pdq_ok : ∀ N, PdqOk N
  | 0 => fun _ _ _ _ _ _ _ _ h => absurd h (Nat.not_lt_zero _)
  | N + 1 => pdq_step N (pdq_ok N)
end Go.Proofs.YtgheloooibafcaaGreatDoor
