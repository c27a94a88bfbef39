import Derived.Test.YtdkbbngedjiheaaGreatDoorUs1
import Derived.Sort.WalkC4
import Derived.Deep.DeepCutAuto
import Derived.Deep.CutBlock
import Derived.Deep.LoopGhost
/- The sort of numbers of 32 bits: the partition. -/
namespace Go.Proofs.YtdkbbngedjiheaaGreatDoor
open Go.RowKit Go.Sort

def PartUG (w : World) (g off : Nat) (r : Nat × Bool × Array Int) (e : Ending) (w' : World) : Prop := e = .returned (.tuple #[.int .i64 r.1, .bool r.2.1]) ∧ UG w g off r.2.2 w'
theorem PartUG.mk {w w' : World} {g off : Nat} {r : Nat × Bool × Array Int} {d : Array Int} {i : Nat} {b : Bool} (h : r = (i, b, d)) (k : UG w g off d w') : PartUG w g off r (.returned (.tuple #[.int .i64 i, .bool b])) w' := by subst h; exact ⟨rfl, k⟩

set_option maxHeartbeats 8000000 in
set_option maxRecDepth 100000 in
theorem u_part (g off cap a b pivot : Nat) (d : Array Int) (w : World) (hH : Holds eU w g off d) (hap : a ≤ pivot) (hpb : pivot < b) (hb : b ≤ d.size) (hsz : d.size ≤ 1000000) :
    Calls Tryz.prog 139 #[.slice (some ⟨g, off, none⟩) d.size cap, .int .i64 a, .int .i64 b, .int .i64 pivot] w (PartUG w g off (partition ltInt d a b pivot)) := by
  have HH := Lib.hid hH
  have HU0 := Lib.hid (UG.refl hH)
  obtain ⟨R, hR⟩ : ∃ R, partition ltInt d a b pivot = R := ⟨_, rfl⟩
  have HR := Lib.hid hR
  rw [hR]
  have hsd : d.size = d.size := rfl
  have c1 := HU0.out.cell HH.out hsd (t := a) (by omega)
  have c2 := HU0.out.cell HH.out hsd (t := pivot) (by omega)
  have f1 := HU0.out.frozen HH.out hsd (t := a) (by omega)
  have f2 := HU0.out.frozen HH.out hsd (t := pivot) (by omega)
  have HSW := Lib.hid (fun q => HU0.out.swap q (j := a) (k := pivot) (by omega) (by omega))
  obtain ⟨x, hx⟩ : ∃ x, d[a]! = x := ⟨_, rfl⟩
  obtain ⟨y, hy⟩ : ∃ y, d[pivot]! = y := ⟨_, rfl⟩
  rw [hx] at c1 HSW
  rw [hy] at c2 HSW
  clear hx hy
  have w5 : (a : Int) < (d.size : Int) := by omega
  have w6 : (pivot : Int) < (d.size : Int) := by omega
  obtain ⟨v3, hy3⟩ := cell?_setCell_some (p := ⟨g, off + a, none⟩) (x := .int .u32 y) (q := ⟨g, off + pivot, none⟩) c2
  clear hH hR
  go_enter Tryz.func139, Tryz.ntmps139
  go_wp2_with fail
  go_region
  have HU1 : Hid (UG w g off (swp d a pivot) _) := Lib.hid (HSW.out 1)
  obtain ⟨e, he⟩ : ∃ z, swp d a pivot = z := ⟨_, rfl⟩
  have hse : e.size = d.size := by rw [← he, size_swp]
  rw [he] at HU1
  have HE := Lib.hid he
  obtain ⟨i, hi⟩ : ∃ z : Nat, a + 1 = z := ⟨_, rfl⟩
  obtain ⟨j, hj⟩ : ∃ z : Nat, b - 1 = z := ⟨_, rfl⟩
  obtain ⟨I2, hI2⟩ : ∃ z, scanUp (fun x => ltInt x e[a]!) e j i = z := ⟨_, rfl⟩
  obtain ⟨J2, hJ2⟩ : ∃ z, scanDown (fun x => !ltInt x e[a]!) e I2 j = z := ⟨_, rfl⟩
  have HI2 := Lib.hid hI2
  have HJ2 := Lib.hid hJ2
  have HI := Lib.hid hi
  have HJ := Lib.hid hj
  have hai : a < i := by omega
  have hij : i ≤ j + 1 := by omega
  have hjb : j < b := by omega
  have vi : (a : Int) + 1 = (i : Int) := by omega
  have vj : (b : Int) - 1 = (j : Int) := by omega
  clear he HSW c1 c2 f1 f2 hy3 HU0 hI2 hJ2 hi hj
  go_upto_block 0 with fail
  go_cut [10] (fun sv wc => sv = .int .i64 I2 ∧ i ≤ I2 ∧ I2 ≤ j + 1 ∧ Hid (UG w g off e wc))
  case first =>
    go_wp2_with fail
    go_loopw [10] (fun iv wr => ∃ t : Nat, iv = .int .i64 t ∧ i ≤ t ∧ t ≤ j + 1 ∧ Hid (UG w g off e wr) ∧ Hid (scanUp (fun x => ltInt x e[a]!) e j t = I2)) (fun iv _ => j + 1 - (intOf iv).toNat)
    case atStart => exact ⟨i, rfl, Nat.le_refl _, hij, HU1, HI2⟩
    case round =>
      obtain ⟨t, rfl, hit, htj, HU2, HS⟩ := hrel
      by_cases hle : t ≤ j
      · have c1 := HU2.out.cell HH.out hse (t := t) (by omega)
        have c2 := HU2.out.cell HH.out hse (t := a) (by omega)
        have HGO : Hid (ltInt e[t]! e[a]! = true → scanUp (fun x => ltInt x e[a]!) e j (t + 1) = I2) := Lib.hid fun h => (scanUp_go (fun x => ltInt x e[a]!) e j t hle h).symm.trans HS.out
        have HST : Hid (ltInt e[t]! e[a]! = false → t = I2) := Lib.hid fun h => (scanUp_end (fun x => ltInt x e[a]!) e j t (.inr h)).symm.trans HS.out
        obtain ⟨x, hx⟩ : ∃ x, e[t]! = x := ⟨_, rfl⟩
        obtain ⟨y, hy⟩ : ∃ y, e[a]! = y := ⟨_, rfl⟩
        rw [hx] at c1 HGO HST
        rw [hy] at c2
        have HGO2 : Hid (ltInt x y = true → scanUp (fun x => ltInt x e[a]!) e j (t + 1) = I2) := Lib.hid fun h => HGO.out (by rw [hy]; exact h)
        have HST2 : Hid (ltInt x y = false → t = I2) := Lib.hid fun h => HST.out (by rw [hy]; exact h)
        obtain ⟨lb, hlb⟩ : ∃ z, ltInt x y = z := ⟨_, rfl⟩
        have HLS := Lib.hid (u_Less x y)
        rw [hlb] at HLS HGO2 HST2
        have w5 : (t : Int) < (d.size : Int) := by omega
        have w6 : (a : Int) < (d.size : Int) := by omega
        have b1 : decide ((t : Int) ≤ (j : Int)) = true := decide_eq_true (by omega)
        clear hx hy hlb HS HGO HST
        go_wp2_with fail
        go_quiet (first | (go_at_call 137; refine Calls.quiet_of_same (HLS.out _)))
        cases lb with
        | true =>
          have HN := Lib.hid (HGO2.out rfl)
          clear HGO2 HST2 HLS
          go_wp2
          exact ⟨⟨t + 1, by go_num, by omega, by omega, Lib.hid (HU2.out.drewN nq), HN⟩, by simp [intOf]; omega⟩
        | false =>
          have HN := Lib.hid (HST2.out rfl)
          clear HGO2 HST2 HLS c1 c2
          obtain rfl := HN.out
          go_wp2_with fail
          go_meet
          exact ⟨rfl, by omega, by omega, Lib.hid (HU2.out.drewN nq)⟩
      · have HN := Lib.hid ((scanUp_end (fun x => ltInt x e[a]!) e j t (.inl hle)).symm.trans HS.out)
        have b1 : decide ((t : Int) ≤ (j : Int)) = false := decide_eq_false (by omega)
        obtain rfl := HN.out
        go_wp2_with fail
        go_quiet (fail)
        go_wp2_with fail
        go_meet
        exact ⟨rfl, by omega, by omega, Lib.hid (HU2.out.drewN nq)⟩
  case rest =>
    obtain ⟨rfl, h1, h2, HU3⟩ := hcut
    clear HU1
    go_upto_block 2 with fail
    go_cut [11] (fun sv wc => sv = .int .i64 J2 ∧ J2 ≤ j ∧ I2 ≤ J2 + 1 ∧ Hid (UG w g off e wc))
    case first =>
      go_wp2_with fail
      go_loopw [11] (fun iv wr => ∃ t : Nat, iv = .int .i64 t ∧ t ≤ j ∧ I2 ≤ t + 1 ∧ Hid (UG w g off e wr) ∧ Hid (scanDown (fun x => !ltInt x e[a]!) e I2 t = J2)) (fun iv _ => (intOf iv).toNat)
      case atStart => exact ⟨j, rfl, Nat.le_refl _, h2, HU3, HJ2⟩
      case round =>
        obtain ⟨t, rfl, htj, hit, HU2, HS⟩ := hrel
        by_cases hle : I2 ≤ t
        · have c1 := HU2.out.cell HH.out hse (t := t) (by omega)
          have c2 := HU2.out.cell HH.out hse (t := a) (by omega)
          have HGO : Hid (ltInt e[t]! e[a]! = false → scanDown (fun x => !ltInt x e[a]!) e I2 (t - 1) = J2) := Lib.hid fun h => (scanDown_go (fun x => !ltInt x e[a]!) e I2 t hle (by omega) (by rw [h]; rfl)).symm.trans HS.out
          have HST : Hid (ltInt e[t]! e[a]! = true → t = J2) := Lib.hid fun h => (scanDown_end (fun x => !ltInt x e[a]!) e I2 t (.inr (by rw [h]; rfl))).symm.trans HS.out
          obtain ⟨x, hx⟩ : ∃ x, e[t]! = x := ⟨_, rfl⟩
          obtain ⟨y, hy⟩ : ∃ y, e[a]! = y := ⟨_, rfl⟩
          rw [hx] at c1 HGO HST
          rw [hy] at c2
          have HGO2 : Hid (ltInt x y = false → scanDown (fun x => !ltInt x e[a]!) e I2 (t - 1) = J2) := Lib.hid fun h => HGO.out (by rw [hy]; exact h)
          have HST2 : Hid (ltInt x y = true → t = J2) := Lib.hid fun h => HST.out (by rw [hy]; exact h)
          obtain ⟨lb, hlb⟩ : ∃ z, ltInt x y = z := ⟨_, rfl⟩
          have HLS := Lib.hid (u_Less x y)
          rw [hlb] at HLS HGO2 HST2
          have w5 : (t : Int) < (d.size : Int) := by omega
          have w6 : (a : Int) < (d.size : Int) := by omega
          have b1 : decide ((I2 : Int) ≤ (t : Int)) = true := decide_eq_true (by omega)
          clear hx hy hlb HS HGO HST
          go_wp2_with fail
          go_quiet (first | (go_at_call 137; refine Calls.quiet_of_same (HLS.out _)))
          cases lb with
          | false =>
            have HN := Lib.hid (HGO2.out rfl)
            clear HGO2 HST2 HLS
            go_wp2
            exact ⟨⟨t - 1, by go_num, by omega, by omega, Lib.hid (HU2.out.drewN nq), HN⟩, by simp [intOf]; omega⟩
          | true =>
            have HN := Lib.hid (HST2.out rfl)
            clear HGO2 HST2 HLS c1 c2
            obtain rfl := HN.out
            go_wp2_with fail
            go_meet
            exact ⟨rfl, by omega, by omega, Lib.hid (HU2.out.drewN nq)⟩
        · have HN := Lib.hid ((scanDown_end (fun x => !ltInt x e[a]!) e I2 t (.inl hle)).symm.trans HS.out)
          have b1 : decide ((I2 : Int) ≤ (t : Int)) = false := decide_eq_false (by omega)
          obtain rfl := HN.out
          go_wp2_with fail
          go_quiet (fail)
          go_wp2_with fail
          go_meet
          exact ⟨rfl, by omega, by omega, Lib.hid (HU2.out.drewN nq)⟩
    case rest =>
      obtain ⟨rfl, h3, h4, HU4⟩ := hcut
      clear HU3
      by_cases hgt : J2 < I2
      · have HF : Hid (R = (J2, true, swp e J2 a)) := Lib.hid (by rw [← HR.out]; exact part_first_break ltInt d a b pivot HI.out.symm HJ.out.symm HE.out.symm HI2.out.symm HJ2.out.symm hgt)
        have c1 := HU4.out.cell HH.out hse (t := J2) (by omega)
        have c2 := HU4.out.cell HH.out hse (t := a) (by omega)
        have f1 := HU4.out.frozen HH.out hse (t := J2) (by omega)
        have f2 := HU4.out.frozen HH.out hse (t := a) (by omega)
        have HSW := Lib.hid (fun q => HU4.out.swap q (j := J2) (k := a) (by omega) (by omega))
        obtain ⟨x, hx⟩ : ∃ x, e[J2]! = x := ⟨_, rfl⟩
        obtain ⟨y, hy⟩ : ∃ y, e[a]! = y := ⟨_, rfl⟩
        rw [hx] at c1 HSW
        rw [hy] at c2 HSW
        clear hx hy
        have w5 : (J2 : Int) < (d.size : Int) := by omega
        have w6 : (a : Int) < (d.size : Int) := by omega
        obtain ⟨v3, hy3⟩ := cell?_setCell_some (p := ⟨g, off + J2, none⟩) (x := .int .u32 y) (q := ⟨g, off + a, none⟩) c2
        go_wp2_with fail
        go_region
        all_goals go_wp2
        all_goals go_ret2
        all_goals exact PartUG.mk HF.out (HSW.out 1)
      · have hlt : I2 < J2 := part_scans_lt ltInt a i j e (by omega) HI2.out.symm HJ2.out.symm (by omega)
        obtain ⟨S, hS⟩ : ∃ z, partLoop ltInt a (I2 + 1) (J2 - 1) (swp e I2 J2) = z := ⟨_, rfl⟩
        have HF : Hid (R = (S.1, false, swp S.2 S.1 a)) := Lib.hid (by rw [← HR.out, ← hS]; exact part_first_go ltInt d a b pivot HI.out.symm HJ.out.symm HE.out.symm HI2.out.symm HJ2.out.symm (by omega))
        have HS := Lib.hid hS
        clear hS
        have c1 := HU4.out.cell HH.out hse (t := I2) (by omega)
        have c2 := HU4.out.cell HH.out hse (t := J2) (by omega)
        have f1 := HU4.out.frozen HH.out hse (t := I2) (by omega)
        have f2 := HU4.out.frozen HH.out hse (t := J2) (by omega)
        have HSW := Lib.hid (fun q => HU4.out.swap q (j := I2) (k := J2) (by omega) (by omega))
        obtain ⟨x, hx⟩ : ∃ x, e[I2]! = x := ⟨_, rfl⟩
        obtain ⟨y, hy⟩ : ∃ y, e[J2]! = y := ⟨_, rfl⟩
        rw [hx] at c1 HSW
        rw [hy] at c2 HSW
        clear hx hy
        have w5 : (I2 : Int) < (d.size : Int) := by omega
        have w6 : (J2 : Int) < (d.size : Int) := by omega
        have hne : ¬ off + I2 = off + J2 := by omega
        go_wp2_with fail
        go_region
        have HU5 : Hid (UG w g off (swp e I2 J2) _) := Lib.hid (HSW.out 1)
        have hs5 : (swp e I2 J2).size = d.size := by rw [size_swp]; exact hse
        obtain ⟨e5, he5⟩ : ∃ z, swp e I2 J2 = z := ⟨_, rfl⟩
        rw [he5] at HU5 hs5 HS
        clear he5 HSW c1 c2 f1 f2 HU4 hse HI2 HJ2 HE HR hne hij
        go_wp2
        go_loopg [10, 11] (J2 - 1 + 1 - (I2 + 1)) (fun n s10 s11 wr => ∃ (i' j' : Nat) (e' : Array Int), s10 = .int .i64 i' ∧ s11 = .int .i64 j' ∧ a < i' ∧ i' ≤ j' + 1 ∧ j' < b ∧ j' + 1 - i' = n ∧ e'.size = d.size ∧ Hid (UG w g off e' wr) ∧ Hid (partLoop ltInt a i' j' e' = S))
        case atStart => exact ⟨I2 + 1, J2 - 1, e5, by go_num, by congr 1; omega, by omega, by omega, by omega, by omega, hs5, HU5, HS⟩
        case round =>
          clear HU5 HS hs5
          obtain ⟨i', j', e', rfl, rfl, hai, hij, hjb, hn, hse, HU, HO⟩ := hrel
          obtain ⟨I3, hI3⟩ : ∃ z, scanUp (fun x => ltInt x e'[a]!) e' j' i' = z := ⟨_, rfl⟩
          obtain ⟨J3, hJ3⟩ : ∃ z, scanDown (fun x => !ltInt x e'[a]!) e' I3 j' = z := ⟨_, rfl⟩
          have HI3 := Lib.hid hI3
          have HJ3 := Lib.hid hJ3
          clear hI3 hJ3 h1 h2 h3 h4 hgt hlt
          go_upto_block 6 with fail
          go_cut [10] (fun sv wc => sv = .int .i64 I3 ∧ i' ≤ I3 ∧ I3 ≤ j' + 1 ∧ Hid (UG w g off e' wc))
          case first =>
            go_wp2_with fail
            go_loopw [10] (fun iv wr => ∃ t : Nat, iv = .int .i64 t ∧ i' ≤ t ∧ t ≤ j' + 1 ∧ Hid (UG w g off e' wr) ∧ Hid (scanUp (fun x => ltInt x e'[a]!) e' j' t = I3)) (fun iv _ => j' + 1 - (intOf iv).toNat)
            case atStart => exact ⟨i', rfl, Nat.le_refl _, hij, HU, HI3⟩
            case round =>
              obtain ⟨t, rfl, hit, htj, HU2, HS⟩ := hrel
              by_cases hle : t ≤ j'
              · have c1 := HU2.out.cell HH.out hse (t := t) (by omega)
                have c2 := HU2.out.cell HH.out hse (t := a) (by omega)
                have HGO : Hid (ltInt e'[t]! e'[a]! = true → scanUp (fun x => ltInt x e'[a]!) e' j' (t + 1) = I3) := Lib.hid fun h => (scanUp_go (fun x => ltInt x e'[a]!) e' j' t hle h).symm.trans HS.out
                have HST : Hid (ltInt e'[t]! e'[a]! = false → t = I3) := Lib.hid fun h => (scanUp_end (fun x => ltInt x e'[a]!) e' j' t (.inr h)).symm.trans HS.out
                obtain ⟨x, hx⟩ : ∃ x, e'[t]! = x := ⟨_, rfl⟩
                obtain ⟨y, hy⟩ : ∃ y, e'[a]! = y := ⟨_, rfl⟩
                rw [hx] at c1 HGO HST
                rw [hy] at c2
                have HGO2 : Hid (ltInt x y = true → scanUp (fun x => ltInt x e'[a]!) e' j' (t + 1) = I3) := Lib.hid fun h => HGO.out (by rw [hy]; exact h)
                have HST2 : Hid (ltInt x y = false → t = I3) := Lib.hid fun h => HST.out (by rw [hy]; exact h)
                obtain ⟨lb, hlb⟩ : ∃ z, ltInt x y = z := ⟨_, rfl⟩
                have HLS := Lib.hid (u_Less x y)
                rw [hlb] at HLS HGO2 HST2
                have w5 : (t : Int) < (d.size : Int) := by omega
                have w6 : (a : Int) < (d.size : Int) := by omega
                have b1 : decide ((t : Int) ≤ (j' : Int)) = true := decide_eq_true (by omega)
                clear hx hy hlb HS HGO HST
                go_wp2_with fail
                go_quiet (first | (go_at_call 137; refine Calls.quiet_of_same (HLS.out _)))
                cases lb with
                | true =>
                  have HN := Lib.hid (HGO2.out rfl)
                  clear HGO2 HST2 HLS
                  go_wp2
                  exact ⟨⟨t + 1, by go_num, by omega, by omega, Lib.hid (HU2.out.drewN nq), HN⟩, by simp [intOf]; omega⟩
                | false =>
                  have HN := Lib.hid (HST2.out rfl)
                  clear HGO2 HST2 HLS c1 c2
                  obtain rfl := HN.out
                  go_wp2_with fail
                  go_meet
                  exact ⟨rfl, by omega, by omega, Lib.hid (HU2.out.drewN nq)⟩
              · have HN := Lib.hid ((scanUp_end (fun x => ltInt x e'[a]!) e' j' t (.inl hle)).symm.trans HS.out)
                have b1 : decide ((t : Int) ≤ (j' : Int)) = false := decide_eq_false (by omega)
                obtain rfl := HN.out
                go_wp2_with fail
                go_quiet (fail)
                go_wp2_with fail
                go_meet
                exact ⟨rfl, by omega, by omega, Lib.hid (HU2.out.drewN nq)⟩
          case rest =>
            obtain ⟨rfl, h1, h2, HU3⟩ := hcut
            clear HU
            go_upto_block 8 with fail
            go_cut [11] (fun sv wc => sv = .int .i64 J3 ∧ J3 ≤ j' ∧ I3 ≤ J3 + 1 ∧ Hid (UG w g off e' wc))
            case first =>
              go_wp2_with fail
              go_loopw [11] (fun iv wr => ∃ t : Nat, iv = .int .i64 t ∧ t ≤ j' ∧ I3 ≤ t + 1 ∧ Hid (UG w g off e' wr) ∧ Hid (scanDown (fun x => !ltInt x e'[a]!) e' I3 t = J3)) (fun iv _ => (intOf iv).toNat)
              case atStart => exact ⟨j', rfl, Nat.le_refl _, h2, HU3, HJ3⟩
              case round =>
                obtain ⟨t, rfl, htj, hit, HU2, HS⟩ := hrel
                by_cases hle : I3 ≤ t
                · have c1 := HU2.out.cell HH.out hse (t := t) (by omega)
                  have c2 := HU2.out.cell HH.out hse (t := a) (by omega)
                  have HGO : Hid (ltInt e'[t]! e'[a]! = false → scanDown (fun x => !ltInt x e'[a]!) e' I3 (t - 1) = J3) := Lib.hid fun h => (scanDown_go (fun x => !ltInt x e'[a]!) e' I3 t hle (by omega) (by rw [h]; rfl)).symm.trans HS.out
                  have HST : Hid (ltInt e'[t]! e'[a]! = true → t = J3) := Lib.hid fun h => (scanDown_end (fun x => !ltInt x e'[a]!) e' I3 t (.inr (by rw [h]; rfl))).symm.trans HS.out
                  obtain ⟨x, hx⟩ : ∃ x, e'[t]! = x := ⟨_, rfl⟩
                  obtain ⟨y, hy⟩ : ∃ y, e'[a]! = y := ⟨_, rfl⟩
                  rw [hx] at c1 HGO HST
                  rw [hy] at c2
                  have HGO2 : Hid (ltInt x y = false → scanDown (fun x => !ltInt x e'[a]!) e' I3 (t - 1) = J3) := Lib.hid fun h => HGO.out (by rw [hy]; exact h)
                  have HST2 : Hid (ltInt x y = true → t = J3) := Lib.hid fun h => HST.out (by rw [hy]; exact h)
                  obtain ⟨lb, hlb⟩ : ∃ z, ltInt x y = z := ⟨_, rfl⟩
                  have HLS := Lib.hid (u_Less x y)
                  rw [hlb] at HLS HGO2 HST2
                  have w5 : (t : Int) < (d.size : Int) := by omega
                  have w6 : (a : Int) < (d.size : Int) := by omega
                  have b1 : decide ((I3 : Int) ≤ (t : Int)) = true := decide_eq_true (by omega)
                  clear hx hy hlb HS HGO HST
                  go_wp2_with fail
                  go_quiet (first | (go_at_call 137; refine Calls.quiet_of_same (HLS.out _)))
                  cases lb with
                  | false =>
                    have HN := Lib.hid (HGO2.out rfl)
                    clear HGO2 HST2 HLS
                    go_wp2
                    exact ⟨⟨t - 1, by go_num, by omega, by omega, Lib.hid (HU2.out.drewN nq), HN⟩, by simp [intOf]; omega⟩
                  | true =>
                    have HN := Lib.hid (HST2.out rfl)
                    clear HGO2 HST2 HLS c1 c2
                    obtain rfl := HN.out
                    go_wp2_with fail
                    go_meet
                    exact ⟨rfl, by omega, by omega, Lib.hid (HU2.out.drewN nq)⟩
                · have HN := Lib.hid ((scanDown_end (fun x => !ltInt x e'[a]!) e' I3 t (.inl hle)).symm.trans HS.out)
                  have b1 : decide ((I3 : Int) ≤ (t : Int)) = false := decide_eq_false (by omega)
                  obtain rfl := HN.out
                  go_wp2_with fail
                  go_quiet (fail)
                  go_wp2_with fail
                  go_meet
                  exact ⟨rfl, by omega, by omega, Lib.hid (HU2.out.drewN nq)⟩
            case rest =>
              obtain ⟨rfl, h3, h4, HU4⟩ := hcut
              clear HU3
              by_cases hgt : J3 < I3
              · have HB : Hid (S = (J3, e')) := Lib.hid (by rw [← HO.out]; exact part_break ltInt a i' j' e' HI3.out.symm HJ3.out.symm hgt)
                have HF2 : Hid (R = (J3, false, swp e' J3 a)) := Lib.hid (by rw [HF.out, HB.out])
                have c1 := HU4.out.cell HH.out hse (t := J3) (by omega)
                have c2 := HU4.out.cell HH.out hse (t := a) (by omega)
                have f1 := HU4.out.frozen HH.out hse (t := J3) (by omega)
                have f2 := HU4.out.frozen HH.out hse (t := a) (by omega)
                have HSW := Lib.hid (fun q => HU4.out.swap q (j := J3) (k := a) (by omega) (by omega))
                obtain ⟨x, hx⟩ : ∃ x, e'[J3]! = x := ⟨_, rfl⟩
                obtain ⟨y, hy⟩ : ∃ y, e'[a]! = y := ⟨_, rfl⟩
                rw [hx] at c1 HSW
                rw [hy] at c2 HSW
                clear hx hy
                have w5 : (J3 : Int) < (d.size : Int) := by omega
                have w6 : (a : Int) < (d.size : Int) := by omega
                obtain ⟨v3, hy3⟩ := cell?_setCell_some (p := ⟨g, off + J3, none⟩) (x := .int .u32 y) (q := ⟨g, off + a, none⟩) c2
                go_wp2_with fail
                go_region
                all_goals go_wp2
                all_goals go_ret2
                all_goals exact PartUG.mk HF2.out (HSW.out 1)
              · have hlt : I3 < J3 := part_scans_lt ltInt a i' j' e' (by omega) HI3.out.symm HJ3.out.symm (by omega)
                have HN : Hid (partLoop ltInt a (I3 + 1) (J3 - 1) (swp e' I3 J3) = S) := Lib.hid (by rw [← HO.out]; exact (part_go ltInt a i' j' e' HI3.out.symm HJ3.out.symm (by omega)).symm)
                have c1 := HU4.out.cell HH.out hse (t := I3) (by omega)
                have c2 := HU4.out.cell HH.out hse (t := J3) (by omega)
                have f1 := HU4.out.frozen HH.out hse (t := I3) (by omega)
                have f2 := HU4.out.frozen HH.out hse (t := J3) (by omega)
                have HSW := Lib.hid (fun q => HU4.out.swap q (j := I3) (k := J3) (by omega) (by omega))
                obtain ⟨x, hx⟩ : ∃ x, e'[I3]! = x := ⟨_, rfl⟩
                obtain ⟨y, hy⟩ : ∃ y, e'[J3]! = y := ⟨_, rfl⟩
                rw [hx] at c1 HSW
                rw [hy] at c2 HSW
                clear hx hy
                have w5 : (I3 : Int) < (d.size : Int) := by omega
                have w6 : (J3 : Int) < (d.size : Int) := by omega
                have hne : ¬ off + I3 = off + J3 := by omega
                go_wp2_with fail
                go_region
                all_goals go_wp2
                all_goals go_roundg (J3 - 1 + 1 - (I3 + 1))
                case measure => omega
                case rel => exact ⟨I3 + 1, J3 - 1, swp e' I3 J3, by go_num, by congr 1; omega, by omega, by omega, by omega, rfl, by rw [size_swp]; exact hse, Lib.hid (HSW.out 1), HN⟩
end Go.Proofs.YtdkbbngedjiheaaGreatDoor
