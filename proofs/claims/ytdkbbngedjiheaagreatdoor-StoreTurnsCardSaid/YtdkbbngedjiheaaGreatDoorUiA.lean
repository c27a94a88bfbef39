import Derived.Test.YtdkbbngedjiheaaGreatDoorUs1
import Derived.Sort.WalkC4
import Derived.Deep.DeepCutAuto
import Derived.Deep.CutBlock
import Derived.Deep.LoopGhost
/- The sort of numbers of 32 bits: the partition by equal ones. -/
namespace Go.Proofs.YtdkbbngedjiheaaGreatDoor
open Go.RowKit Go.Sort

def IntUG (w : World) (g off : Nat) (r : Nat × Array Int) (e : Ending) (w' : World) : Prop := e = .returned (.int .i64 r.1) ∧ UG w g off r.2 w'
theorem IntUG.mk {w w' : World} {g off : Nat} {r : Nat × Array Int} {d : Array Int} {i : Nat} (h : r = (i, d)) (k : UG w g off d w') : IntUG w g off r (.returned (.int .i64 i)) w' := by subst h; exact ⟨rfl, k⟩

set_option maxHeartbeats 4000000 in
set_option maxRecDepth 100000 in
theorem u_partEq (g off cap a b pivot : Nat) (d : Array Int) (w : World) (hH : Holds eU w g off d) (hap : a ≤ pivot) (hpb : pivot < b) (hb : b ≤ d.size) (hsz : d.size ≤ 1000000) :
    Calls Tryz.prog 138 #[.slice (some ⟨g, off, none⟩) d.size cap, .int .i64 a, .int .i64 b, .int .i64 pivot] w (IntUG w g off (partitionEqual ltInt d a b pivot)) := by
  have HH := Lib.hid hH
  have HU0 := Lib.hid (UG.refl hH)
  obtain ⟨R, hR⟩ : ∃ R, partitionEqual ltInt d a b pivot = R := ⟨_, rfl⟩
  have HR : Hid (partEqLoop ltInt a (a + 1) (b - 1) (swp d a pivot) = R) := Lib.hid hR
  rw [hR]
  have hsd : d.size = d.size := rfl
  have c1 := HU0.out.cell HH.out hsd (t := a) (by omega)
  have c2 := HU0.out.cell HH.out hsd (t := pivot) (by omega)
  have f1 := HU0.out.frozen HH.out hsd (t := a) (by omega)
  have f2 := HU0.out.frozen HH.out hsd (t := pivot) (by omega)
  have HSW := Lib.hid (fun q => HU0.out.swap q (j := a) (k := pivot) (by omega) (by omega))
  obtain ⟨x, hx⟩ : ∃ x, d[a]! = x := ⟨_, rfl⟩
  obtain ⟨y, hy⟩ : ∃ y, d[pivot]! = y := ⟨_, rfl⟩
  rw [hx] at c1 HSW
  rw [hy] at c2 HSW
  clear hx hy
  have w5 : (a : Int) < (d.size : Int) := by omega
  have w6 : (pivot : Int) < (d.size : Int) := by omega
  obtain ⟨v3, hy3⟩ := cell?_setCell_some (p := ⟨g, off + a, none⟩) (x := .int .u32 y) (q := ⟨g, off + pivot, none⟩) c2
  clear hH hR
  go_enter Tryz.func138, Tryz.ntmps138
  go_wp2_with fail
  go_region
  have HU1 : Hid (UG w g off (swp d a pivot) _) := Lib.hid (HSW.out 1)
  obtain ⟨e0, he0⟩ : ∃ z, swp d a pivot = z := ⟨_, rfl⟩
  have hs0 : e0.size = d.size := by rw [← he0, size_swp]
  rw [he0] at HU1 HR
  clear he0 HSW c1 c2 f1 f2 hy3 HU0
  go_wp2
  go_loopg [9, 10] (b - 1 - a) (fun n s9 s10 wr => ∃ (i j : Nat) (e : Array Int), s9 = .int .i64 i ∧ s10 = .int .i64 j ∧ a < i ∧ i ≤ j + 1 ∧ j < b ∧ j + 1 - i = n ∧ e.size = d.size ∧ Hid (UG w g off e wr) ∧ Hid (partEqLoop ltInt a i j e = R))
  case atStart => exact ⟨a + 1, b - 1, e0, by go_num, by congr 1; omega, by omega, by omega, by omega, by omega, hs0, HU1, HR⟩
  case round =>
    clear HU1
    obtain ⟨i, j, e, rfl, rfl, hai, hij, hjb, hn, hse, HU, HO⟩ := hrel
    obtain ⟨I2, hI2⟩ : ∃ z, scanUp (fun x => !ltInt e[a]! x) e j i = z := ⟨_, rfl⟩
    obtain ⟨J2, hJ2⟩ : ∃ z, scanDown (fun x => ltInt e[a]! x) e I2 j = z := ⟨_, rfl⟩
    have HI2 := Lib.hid hI2
    have HJ2 := Lib.hid hJ2
    clear hI2 hJ2
    go_upto_block 2 with fail
    go_cut [9] (fun sv wc => sv = .int .i64 I2 ∧ i ≤ I2 ∧ I2 ≤ j + 1 ∧ Hid (UG w g off e wc))
    case first =>
      go_wp2_with fail
      go_loopw [9] (fun iv wr => ∃ t : Nat, iv = .int .i64 t ∧ i ≤ t ∧ t ≤ j + 1 ∧ Hid (UG w g off e wr) ∧ Hid (scanUp (fun x => !ltInt e[a]! x) e j t = I2)) (fun iv _ => j + 1 - (intOf iv).toNat)
      case atStart => exact ⟨i, rfl, Nat.le_refl _, hij, HU, HI2⟩
      case round =>
        obtain ⟨t, rfl, hit, htj, HU2, HS⟩ := hrel
        by_cases hle : t ≤ j
        · have c1 := HU2.out.cell HH.out hse (t := t) (by omega)
          have c2 := HU2.out.cell HH.out hse (t := a) (by omega)
          have HGO : Hid (ltInt e[a]! e[t]! = false → scanUp (fun x => !ltInt e[a]! x) e j (t + 1) = I2) := Lib.hid fun h => (scanUp_go (fun x => !ltInt e[a]! x) e j t hle (by rw [h]; rfl)).symm.trans HS.out
          have HST : Hid (ltInt e[a]! e[t]! = true → t = I2) := Lib.hid fun h => (scanUp_end (fun x => !ltInt e[a]! x) e j t (.inr (by rw [h]; rfl))).symm.trans HS.out
          obtain ⟨x, hx⟩ : ∃ x, e[t]! = x := ⟨_, rfl⟩
          obtain ⟨y, hy⟩ : ∃ y, e[a]! = y := ⟨_, rfl⟩
          rw [hx] at c1 HGO HST
          rw [hy] at c2
          have HGO2 : Hid (ltInt y x = false → scanUp (fun x => !ltInt e[a]! x) e j (t + 1) = I2) := Lib.hid fun h => HGO.out (by rw [hy]; exact h)
          have HST2 : Hid (ltInt y x = true → t = I2) := Lib.hid fun h => HST.out (by rw [hy]; exact h)
          obtain ⟨lb, hlb⟩ : ∃ z, ltInt y x = z := ⟨_, rfl⟩
          have HLS := Lib.hid (u_Less y x)
          rw [hlb] at HLS HGO2 HST2
          have w5 : (t : Int) < (d.size : Int) := by omega
          have w6 : (a : Int) < (d.size : Int) := by omega
          have b1 : decide ((t : Int) ≤ (j : Int)) = true := decide_eq_true (by omega)
          clear hx hy hlb HS HGO HST
          go_wp2_with fail
          go_quiet (first | (go_at_call 137; refine Calls.quiet_of_same (HLS.out _)))
          cases lb with
          | false =>
            have HN := Lib.hid (HGO2.out rfl)
            clear HGO2 HST2 HLS
            go_wp2
            exact ⟨⟨t + 1, by go_num, by omega, by omega, Lib.hid (HU2.out.drewN nq), HN⟩, by simp [intOf]; omega⟩
          | true =>
            have HN := Lib.hid (HST2.out rfl)
            clear HGO2 HST2 HLS c1 c2
            obtain rfl := HN.out
            go_wp2_with fail
            go_meet
            exact ⟨rfl, by omega, by omega, Lib.hid (HU2.out.drewN nq)⟩
        · have HN := Lib.hid ((scanUp_end (fun x => !ltInt e[a]! x) e j t (.inl hle)).symm.trans HS.out)
          have b1 : decide ((t : Int) ≤ (j : Int)) = false := decide_eq_false (by omega)
          obtain rfl := HN.out
          go_wp2_with fail
          go_quiet (fail)
          go_wp2_with fail
          go_meet
          exact ⟨rfl, by omega, by omega, Lib.hid (HU2.out.drewN nq)⟩
    case rest =>
      obtain ⟨rfl, h1, h2, HU3⟩ := hcut
      clear HU
      go_upto_block 4 with fail
      go_cut [10] (fun sv wc => sv = .int .i64 J2 ∧ J2 ≤ j ∧ I2 ≤ J2 + 1 ∧ Hid (UG w g off e wc))
      case first =>
        go_wp2_with fail
        go_loopw [10] (fun iv wr => ∃ t : Nat, iv = .int .i64 t ∧ t ≤ j ∧ I2 ≤ t + 1 ∧ Hid (UG w g off e wr) ∧ Hid (scanDown (fun x => ltInt e[a]! x) e I2 t = J2)) (fun iv _ => (intOf iv).toNat)
        case atStart => exact ⟨j, rfl, Nat.le_refl _, h2, HU3, HJ2⟩
        case round =>
          obtain ⟨t, rfl, htj, hit, HU2, HS⟩ := hrel
          by_cases hle : I2 ≤ t
          · have c1 := HU2.out.cell HH.out hse (t := t) (by omega)
            have c2 := HU2.out.cell HH.out hse (t := a) (by omega)
            have HGO : Hid (ltInt e[a]! e[t]! = true → scanDown (fun x => ltInt e[a]! x) e I2 (t - 1) = J2) := Lib.hid fun h => (scanDown_go (fun x => ltInt e[a]! x) e I2 t hle (by omega) h).symm.trans HS.out
            have HST : Hid (ltInt e[a]! e[t]! = false → t = J2) := Lib.hid fun h => (scanDown_end (fun x => ltInt e[a]! x) e I2 t (.inr h)).symm.trans HS.out
            obtain ⟨x, hx⟩ : ∃ x, e[t]! = x := ⟨_, rfl⟩
            obtain ⟨y, hy⟩ : ∃ y, e[a]! = y := ⟨_, rfl⟩
            rw [hx] at c1 HGO HST
            rw [hy] at c2
            have HGO2 : Hid (ltInt y x = true → scanDown (fun x => ltInt e[a]! x) e I2 (t - 1) = J2) := Lib.hid fun h => HGO.out (by rw [hy]; exact h)
            have HST2 : Hid (ltInt y x = false → t = J2) := Lib.hid fun h => HST.out (by rw [hy]; exact h)
            obtain ⟨lb, hlb⟩ : ∃ z, ltInt y x = z := ⟨_, rfl⟩
            have HLS := Lib.hid (u_Less y x)
            rw [hlb] at HLS HGO2 HST2
            have w5 : (t : Int) < (d.size : Int) := by omega
            have w6 : (a : Int) < (d.size : Int) := by omega
            have b1 : decide ((I2 : Int) ≤ (t : Int)) = true := decide_eq_true (by omega)
            clear hx hy hlb HS HGO HST
            go_wp2_with fail
            go_quiet (first | (go_at_call 137; refine Calls.quiet_of_same (HLS.out _)))
            cases lb with
            | true =>
              have HN := Lib.hid (HGO2.out rfl)
              clear HGO2 HST2 HLS
              go_wp2
              exact ⟨⟨t - 1, by go_num, by omega, by omega, Lib.hid (HU2.out.drewN nq), HN⟩, by simp [intOf]; omega⟩
            | false =>
              have HN := Lib.hid (HST2.out rfl)
              clear HGO2 HST2 HLS c1 c2
              obtain rfl := HN.out
              go_wp2_with fail
              go_meet
              exact ⟨rfl, by omega, by omega, Lib.hid (HU2.out.drewN nq)⟩
          · have HN := Lib.hid ((scanDown_end (fun x => ltInt e[a]! x) e I2 t (.inl hle)).symm.trans HS.out)
            have b1 : decide ((I2 : Int) ≤ (t : Int)) = false := decide_eq_false (by omega)
            obtain rfl := HN.out
            go_wp2_with fail
            go_quiet (fail)
            go_wp2_with fail
            go_meet
            exact ⟨rfl, by omega, by omega, Lib.hid (HU2.out.drewN nq)⟩
      case rest =>
        obtain ⟨rfl, h3, h4, HU4⟩ := hcut
        clear HU3
        by_cases hgt : J2 < I2
        · have HF : Hid (R = (I2, e)) := Lib.hid (by rw [← HO.out]; exact partEq_break ltInt a i j e HI2.out.symm HJ2.out.symm hgt)
          go_wp2
          go_ret
          exact IntUG.mk HF.out HU4.out
        · have hlt : I2 < J2 := scans_lt ltInt a i j e (by omega) HI2.out.symm HJ2.out.symm (by omega)
          have HN : Hid (partEqLoop ltInt a (I2 + 1) (J2 - 1) (swp e I2 J2) = R) := Lib.hid (by rw [← HO.out]; exact (partEq_go ltInt a i j e HI2.out.symm HJ2.out.symm (by omega)).symm)
          have c1 := HU4.out.cell HH.out hse (t := I2) (by omega)
          have c2 := HU4.out.cell HH.out hse (t := J2) (by omega)
          have f1 := HU4.out.frozen HH.out hse (t := I2) (by omega)
          have f2 := HU4.out.frozen HH.out hse (t := J2) (by omega)
          have HSW := Lib.hid (fun q => HU4.out.swap q (j := I2) (k := J2) (by omega) (by omega))
          obtain ⟨x, hx⟩ : ∃ x, e[I2]! = x := ⟨_, rfl⟩
          obtain ⟨y, hy⟩ : ∃ y, e[J2]! = y := ⟨_, rfl⟩
          rw [hx] at c1 HSW
          rw [hy] at c2 HSW
          clear hx hy
          have w5 : (I2 : Int) < (d.size : Int) := by omega
          have w6 : (J2 : Int) < (d.size : Int) := by omega
          have hne : ¬ off + I2 = off + J2 := by omega
          go_wp2_with fail
          go_region
          all_goals go_wp2
          all_goals go_roundg (J2 - 1 + 1 - (I2 + 1))
          case measure => omega
          case rel => exact ⟨I2 + 1, J2 - 1, swp e I2 J2, by go_num, by congr 1; omega, by omega, by omega, by omega, rfl, by rw [size_swp]; exact hse, Lib.hid (HSW.out 1), HN⟩
end Go.Proofs.YtdkbbngedjiheaaGreatDoor
