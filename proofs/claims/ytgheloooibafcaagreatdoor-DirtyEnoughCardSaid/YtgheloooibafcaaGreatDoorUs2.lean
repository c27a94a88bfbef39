/- Merged from: Ui7 Ui8. -/
import Derived.Test.YtgheloooibafcaaGreatDoorUs1
import Derived.Test.YtgheloooibafcaaGreatDoorShB
import Derived.Sort.LotD5
import Derived.Laws.Bits64
import Derived.Laws.Bits64b
namespace Go.Proofs.YtgheloooibafcaaGreatDoor
open Go.RowKit Go.Sort

theorem bitLen_log (x : Nat) (h : x < 2 ^ 64) : Lib.bitLen x = bitsLen x := by
  induction x using Nat.strongRecOn with
  | _ x ih =>
    by_cases h0 : x = 0
    · subst h0; rfl
    · rw [Lib.bitLen_half x h0 h, ih (x / 2) (by omega) (by omega)]
      unfold bitsLen
      rw [if_neg h0, Nat.log2_def x]
      by_cases h2 : 2 ≤ x
      · rw [if_pos h2, if_neg (by omega)]; omega
      · obtain rfl : x = 1 := by omega
        simp
theorem pow_wrap (k : Nat) (hk : k ≤ 62) : IntKind.u64.wrap ((2 : Int) ^ k) = ((1 <<< k : Nat) : Int) := by
  have h : (2 : Nat) ^ k ≤ 2 ^ 62 := Nat.pow_le_pow_right (by decide) hk
  rw [IntKind.wrap_u64, Nat.one_shiftLeft, show ((2 : Int) ^ k) = ((2 ^ k : Nat) : Int) by push_cast; rfl]
  generalize (2 : Nat) ^ k = p at h
  omega
theorem u_len (n : Nat) (hn : n ≤ 1000000) (w : World) : Calls Tryz.prog 87 #[.int .u64 n] w fun e w' => e = .returned (.int .i64 (bitsLen n : Nat)) ∧ w' = w := by
  have h := Tryz.bits_Len (n : Int) w (by omega) (by omega)
  rwa [Int.toNat_natCast, bitLen_log _ (by omega)] at h
theorem u_pow2 (n : Nat) (hn : n ≤ 1000000) (w : World) : Calls Tryz.prog 167 #[.int .i64 n] w fun e w' => e = .returned (.int .u64 ((1 <<< bitsLen n : Nat) : Int)) ∧ w' = w := by
  have hL := Lib.hid (u_len n hn)
  have hk : bitsLen n ≤ 62 := (bitsLen_le_iff n 62).2 (by omega)
  have hp := pow_wrap (bitsLen n) hk
  go_enter Tryz.func167, Tryz.ntmps167
  go_wp2_with fail
  refine (hL.out _).mono ?_
  rintro e w' ⟨rfl, rfl⟩
  go_wp2
  go_ret
  exact ⟨rfl, rfl⟩

/-- What the generator's cell holds. -/
def Rn (rb : Nat) (r : Nat) (w : World) : Prop := Bk rb 232 #[.int .u64 r] w
theorem Rn.cell {rb r : Nat} {w : World} (h : Rn rb r w) : w.cell? ⟨rb, 0, none⟩ = some (.int .u64 r) := Bk.cell h 0
theorem Rn.frozen {rb r : Nat} {w : World} (h : Rn rb r w) : w.frozen? ⟨rb, 0, none⟩ = false := Bk.frozen h 0

theorem gDrew3 {a b : World} {r : Option Nat} (h : a.grownBy b r) : a.grownBy b.drew.drew.drew r := ⟨h.os, h.tape, h.output, h.size, h.block⟩
theorem set_set (w : World) (g o : Nat) (v v' : Value) : (w.setCell ⟨g, o, none⟩ v).setCell ⟨g, o, none⟩ v' = w.setCell ⟨g, o, none⟩ v' := by
  rw [setCell_eq, setCell_eq, mapBlock_mapBlock, setCell_eq]
  congr 1
  funext c
  simp

set_option maxHeartbeats 2000000 in
theorem u_next (rb X : Nat) (hX : X < 18446744073709551616) (w : World) (hR : Rn rb X w) :
    Calls Tryz.prog 168 #[.pointer (some ⟨rb, 0, none⟩)] w fun e w' => e = .returned (.int .u64 (xorNextN X : Nat)) ∧ w.grownBy w' (some rb) ∧ Rn rb (xorNextN X) w' := by
  obtain ⟨A, hA⟩ : ∃ A : Nat, A = X ^^^ (X * 8192 % 18446744073709551616) := ⟨_, rfl⟩
  obtain ⟨B, hB⟩ : ∃ B : Nat, B = A ^^^ (A / 128) := ⟨_, rfl⟩
  obtain ⟨C, hC⟩ : ∃ C : Nat, C = B ^^^ (B * 131072 % 18446744073709551616) := ⟨_, rfl⟩
  have lA : A < 18446744073709551616 := by rw [hA]; exact Nat.xor_lt_two_pow (n := 64) (by omega) (by omega)
  have lB : B < 18446744073709551616 := by rw [hB]; exact Nat.xor_lt_two_pow (n := 64) (by omega) (by omega)
  have e1 : bits .xor .u64 (X : Int) (IntKind.u64.wrap ((X : Int) * 8192)) = (A : Int) := by
    rw [IntKind.wrap_u64, show ((X : Int) * 8192 % 18446744073709551616) = ((X * 8192 % 18446744073709551616 : Nat) : Int) by omega, bits_xor_u64_nat _ _ hX (by omega), hA]
  have e2 : bits .xor .u64 (A : Int) ((A : Int) / 128) = (B : Int) := by
    rw [show ((A : Int) / 128) = ((A / 128 : Nat) : Int) by omega, bits_xor_u64_nat _ _ lA (by omega), hB]
  have e3 : bits .xor .u64 (B : Int) (IntKind.u64.wrap ((B : Int) * 131072)) = (C : Int) := by
    rw [IntKind.wrap_u64, show ((B : Int) * 131072 % 18446744073709551616) = ((B * 131072 % 18446744073709551616 : Nat) : Int) by omega, bits_xor_u64_nat _ _ lB (by omega), hC]
  have hv : xorNextN X = C := by unfold xorNextN; simp only []; rw [← hA, ← hB, ← hC]
  rw [hv]
  clear hA hB hC hv
  have c0 := hR.cell
  have f0 := hR.frozen
  have HR := Lib.hid hR
  have hss : ∀ v v', (w.setCell ⟨rb, 0, none⟩ v).setCell ⟨rb, 0, none⟩ v' = w.setCell ⟨rb, 0, none⟩ v' := set_set w rb 0
  clear hR
  go_enter Tryz.func168, Tryz.ntmps168
  go_wp2
  go_region
  all_goals go_wp2
  all_goals go_region
  all_goals go_wp2
  all_goals go_region
  all_goals go_wp2
  all_goals go_ret
  all_goals exact ⟨rfl, gDrew3 (gSet _ 0 _), HR.out.set_ 0 _⟩

end Go.Proofs.YtgheloooibafcaaGreatDoor

namespace Go.Proofs.YtgheloooibafcaaGreatDoor
open Go.RowKit Go.Sort

def bpS (a L M i0 : Nat) (d : Array Int) : Nat → UInt64 × Array Int
  | 0 => (UInt64.ofNat L, d)
  | t + 1 => breakStep a L M (bpS a L M i0 d t) (i0 + t)
theorem break_eq (d : Array Int) (a L : Nat) (h8 : 8 ≤ L) : breakPatterns d a (a + L) = (bpS a L (1 <<< bitsLen L) (a + L / 4 * 2 - 1) d 3).2 := by
  unfold breakPatterns
  simp only [Nat.add_sub_cancel_left]
  rw [if_pos h8]
  rfl
theorem bpS_succ {a L M i0 t o : Nat} {d e : Array Int} {r : UInt64} (h : bpS a L M i0 d t = (r, e)) (ho : (if (xorNext r).toNat &&& (M - 1) ≥ L then ((xorNext r).toNat &&& (M - 1)) - L else (xorNext r).toNat &&& (M - 1)) = o) :
    bpS a L M i0 d (t + 1) = (xorNext r, swp e (i0 + t) (a + o)) := by
  rw [bpS, h]
  unfold breakStep
  simp only [ho]
theorem break_end {a L M i0 : Nat} {d e : Array Int} {r : UInt64} (h : bpS a L M i0 d 3 = (r, e)) : (bpS a L M i0 d 3).2 = e := by rw [h]

set_option maxHeartbeats 4000000 in
set_option maxRecDepth 100000 in
theorem u_break8 (g off cap a L : Nat) (d : Array Int) (w : World) (hH : Holds eU w g off d) (hg : g < w.heap.size) (hb : a + L ≤ d.size) (hsz : d.size ≤ 1000000) (h8 : 8 ≤ L) :
    Calls Tryz.prog 127 #[.slice (some ⟨g, off, none⟩) d.size cap, .int .i64 a, .int .i64 ((a : Int) + (L : Int))] w fun e w' => e = .returned (.tuple #[]) ∧ UG w g off (breakPatterns d a (a + L)) w' := by
  rw [break_eq d a L h8]
  obtain ⟨M, hM⟩ : ∃ M : Nat, M = 1 <<< bitsLen L := ⟨_, rfl⟩
  have hM1 : 1 ≤ M := by rw [hM, Nat.one_shiftLeft]; exact Nat.two_pow_pos _
  have hM2 : M ≤ 2 * L := by rw [hM, Nat.one_shiftLeft]; exact two_pow_bitsLen_le (by omega)
  have hNP : Hid (∀ w, Calls Tryz.prog 167 #[.int .i64 (L : Int)] w fun e w' => e = .returned (.int .u64 (M : Int)) ∧ w' = w) := Lib.hid (by rw [hM]; exact fun w => u_pow2 L (by omega) w)
  rw [← hM]
  clear hM
  obtain ⟨i0, hi0⟩ : ∃ x : Nat, a + L / 4 * 2 - 1 = x := ⟨_, rfl⟩
  have hi1 : i0 + 1 = a + L / 4 * 2 := by omega
  have hi2 : i0 + 3 ≤ a + L := by omega
  have hai : a ≤ i0 := by omega
  rw [hi0]
  have HH := Lib.hid hH
  have HU : Hid (UG w g off d (w.alloc (.cells #[.int .u64 (L : Int)] 232))) := Lib.hid ((UG.refl hH).same (World.grownBy_alloc w _ none) hg)
  have HL : Hid (Rn w.heap.size (UInt64.ofNat L).toNat (w.alloc (.cells #[.int .u64 (L : Int)] 232))) := Lib.hid (by
    rw [show (UInt64.ofNat L).toNat = L by simp; omega]
    exact Bk.new _ _ _)
  have HNE : Hid (g ≠ w.heap.size) := Lib.hid (by omega)
  have q0 : IntKind.i64.wrap ((a : Int) + (L : Int) - (a : Int)) = (L : Int) := by rw [IntWalk.i64_in _ (by omega)]; omega
  have q1 : (a : Int) + (L : Int) - (a : Int) = (L : Int) := by omega
  obtain ⟨q, hq⟩ : ∃ q : Nat, a + L / 4 * 2 = q := ⟨_, rfl⟩
  have q2 : (a : Int) + (L : Int) / 4 * 2 = (q : Int) := by omega
  have q3 : q = i0 + 1 := by omega
  clear hH hi0 hi1 hq
  go_enter Tryz.func127, Tryz.ntmps127
  go_wp2_with fail
  refine (hNP.out _).mono ?_
  rintro e w1 ⟨rfl, rfl⟩
  go_wp2
  go_loopw [9] (fun vi wr => ∃ (t : Nat) (r : UInt64) (e : Array Int), vi = .int .i64 ((i0 + t : Nat) : Int) ∧ t ≤ 3 ∧ e.size = d.size ∧ Hid (bpS a L M i0 d t = (r, e)) ∧ Hid (UG w g off e wr) ∧ Hid (Rn w.heap.size r.toNat wr)) (fun vi _ => i0 + 3 - (intOf vi).toNat)
  case atStart => exact ⟨0, UInt64.ofNat L, d, by first | rfl | (congr 1; omega), by omega, rfl, Lib.hid rfl, HU, HL⟩
  case round =>
    obtain ⟨t, r, e, rfl, ht, hse, HS, HUG, HRN⟩ := hrel
    by_cases h3 : t < 3
    · obtain ⟨R, hR⟩ : ∃ R : Nat, r.toNat = R := ⟨_, rfl⟩
      have lR : R < 18446744073709551616 := by rw [← hR]; exact r.toNat_lt
      rw [hR] at HRN
      have HNX := Lib.hid (u_next w.heap.size R lR wr HRN.out)
      obtain ⟨R', hR'⟩ : ∃ R' : Nat, xorNextN R = R' := ⟨_, rfl⟩
      have lR' : R' < 18446744073709551616 := by rw [← hR']; exact xorNextN_lt R lR
      rw [hR'] at HNX
      have eR : (xorNext r).toNat = R' := by rw [← hR', ← hR, xorNext_toNat]
      obtain ⟨O, hO⟩ : ∃ O : Nat, R' &&& (M - 1) = O := ⟨_, rfl⟩
      have lO : O ≤ M - 1 := by rw [← hO]; exact Nat.and_le_right
      have eAnd : bits .and .u64 (R' : Int) ((M : Int) - 1) = (O : Int) := by
        rw [show ((M : Int) - 1) = ((M - 1 : Nat) : Int) by omega, bits_and_u64_nat _ _ lR' (by omega), hO]
      obtain ⟨o, ho⟩ : ∃ o : Nat, (if O ≥ L then O - L else O) = o := ⟨_, rfl⟩
      have lo : o < L := by split at ho <;> omega
      have HS2 : Hid (bpS a L M i0 d (t + 1) = (xorNext r, swp e (i0 + t) (a + o))) := Lib.hid (bpS_succ HS.out (by rw [eR, hO]; exact ho))
      have HRT := Lib.hid eR
      have HW2 : Hid (∀ W2, wr.grownBy W2 (some w.heap.size) → UG w g off e W2) := Lib.hid fun W2 h => HUG.out.aside h (Nat.le_refl _) hg
      have hia : i0 + t < d.size := by omega
      have hao : a + o < d.size := by omega
      have k1 : ((i0 : Int) + (t : Int)).toNat = i0 + t := by omega
      have k2 : ((a : Int) + (o : Int)).toNat = a + o := by omega
      have k3 : (i0 : Int) + (t : Int) < (d.size : Int) := by omega
      have k4 : (a : Int) + (o : Int) < (d.size : Int) := by omega
      have k5 : (i0 : Int) + (t : Int) ≤ (q : Int) + 1 := by omega
      clear hR hR' eR hO HRN HS HUG
      by_cases hLO : L ≤ O
      · have eo : (O : Int) - (L : Int) = (o : Int) := by rw [if_pos hLO] at ho; omega
        have lz : (L : Int) ≤ (O : Int) := by omega
        clear ho
        go_wp2_with fail
        refine HNX.out.mono ?_
        rintro e2 w2 ⟨rfl, hg2, hr2⟩
        have HR2 := Lib.hid hr2
        have HU2 := Lib.hid (HW2.out _ hg2)
        clear hg2 hr2 HNX HW2
        have HSW := Lib.hid (fun n => HU2.out.swap n (j := i0 + t) (k := a + o) (by omega) (by omega))
        have c1 := HU2.out.cell HH.out hse (t := i0 + t) hia
        have c2 := HU2.out.cell HH.out hse (t := a + o) hao
        have f1 := HU2.out.frozen HH.out hse (t := i0 + t) hia
        have f2 := HU2.out.frozen HH.out hse (t := a + o) hao
        obtain ⟨y, hy⟩ : ∃ y, e[a + o]! = y := ⟨_, rfl⟩
        by_cases hEq : i0 + t = a + o
        · rw [hEq] at c1 f1 HSW
          rw [hy] at c2 HSW
          clear hy c1 f1
          go_wp2_with fail
          go_region
          all_goals go_wp2
          all_goals exact ⟨⟨t + 1, xorNext r, swp e (i0 + t) (a + o), by go_num, by omega, by rw [size_swp]; exact hse, HS2, Lib.hid (by rw [hEq]; exact HSW.out 1), Lib.hid (by rw [HRT.out]; exact (((HR2.out.drewN 1).grownBy (gSet _ _ _) (by simpa using HNE.out.symm)).grownBy (gSet _ _ _) (by simpa using HNE.out.symm)))⟩, by simp [intOf]; omega⟩
        · have hne : ¬ off + (i0 + t) = off + (a + o) := by omega
          obtain ⟨x, hx⟩ : ∃ x, e[i0 + t]! = x := ⟨_, rfl⟩
          rw [hx] at c1 HSW
          rw [hy] at c2 HSW
          clear hx hy
          go_wp2_with fail
          go_region
          all_goals go_wp2
          all_goals exact ⟨⟨t + 1, xorNext r, swp e (i0 + t) (a + o), by go_num, by omega, by rw [size_swp]; exact hse, HS2, Lib.hid (HSW.out 1), Lib.hid (by rw [HRT.out]; exact (((HR2.out.drewN 1).grownBy (gSet _ _ _) (by simpa using HNE.out.symm)).grownBy (gSet _ _ _) (by simpa using HNE.out.symm)))⟩, by simp [intOf]; omega⟩
      · have eo : O = o := by rw [if_neg hLO] at ho; exact ho
        subst eo
        have lz : ¬ (L : Int) ≤ (O : Int) := by omega
        clear ho
        go_wp2_with fail
        refine HNX.out.mono ?_
        rintro e2 w2 ⟨rfl, hg2, hr2⟩
        have HR2 := Lib.hid hr2
        have HU2 := Lib.hid (HW2.out _ hg2)
        clear hg2 hr2 HNX HW2
        have HSW := Lib.hid (fun n => HU2.out.swap n (j := i0 + t) (k := a + O) (by omega) (by omega))
        have c1 := HU2.out.cell HH.out hse (t := i0 + t) hia
        have c2 := HU2.out.cell HH.out hse (t := a + O) hao
        have f1 := HU2.out.frozen HH.out hse (t := i0 + t) hia
        have f2 := HU2.out.frozen HH.out hse (t := a + O) hao
        obtain ⟨y, hy⟩ : ∃ y, e[a + O]! = y := ⟨_, rfl⟩
        by_cases hEq : i0 + t = a + O
        · rw [hEq] at c1 f1 HSW
          rw [hy] at c2 HSW
          clear hy c1 f1
          go_wp2_with fail
          go_region
          all_goals go_wp2
          all_goals exact ⟨⟨t + 1, xorNext r, swp e (i0 + t) (a + O), by go_num, by omega, by rw [size_swp]; exact hse, HS2, Lib.hid (by rw [hEq]; exact HSW.out 1), Lib.hid (by rw [HRT.out]; exact (((HR2.out.drewN 1).grownBy (gSet _ _ _) (by simpa using HNE.out.symm)).grownBy (gSet _ _ _) (by simpa using HNE.out.symm)))⟩, by simp [intOf]; omega⟩
        · have hne : ¬ off + (i0 + t) = off + (a + O) := by omega
          obtain ⟨x, hx⟩ : ∃ x, e[i0 + t]! = x := ⟨_, rfl⟩
          rw [hx] at c1 HSW
          rw [hy] at c2 HSW
          clear hx hy
          go_wp2_with fail
          go_region
          all_goals go_wp2
          all_goals exact ⟨⟨t + 1, xorNext r, swp e (i0 + t) (a + O), by go_num, by omega, by rw [size_swp]; exact hse, HS2, Lib.hid (HSW.out 1), Lib.hid (by rw [HRT.out]; exact (((HR2.out.drewN 1).grownBy (gSet _ _ _) (by simpa using HNE.out.symm)).grownBy (gSet _ _ _) (by simpa using HNE.out.symm)))⟩, by simp [intOf]; omega⟩
    · obtain rfl : t = 3 := by omega
      have HF : Hid ((bpS a L M i0 d 3).2 = e) := Lib.hid (break_end HS.out)
      have k5 : ¬ (i0 : Int) + 3 ≤ (q : Int) + 1 := by omega
      go_wp2
      go_end0
      exact ⟨rfl, by rw [HF.out]; exact HUG.out⟩

theorem u_break (g off cap a b : Nat) (d : Array Int) (w : World) (hH : Holds eU w g off d) (hg : g < w.heap.size) (hab : a ≤ b) (hb : b ≤ d.size) (hsz : d.size ≤ 1000000) :
    Calls Tryz.prog 127 #[.slice (some ⟨g, off, none⟩) d.size cap, .int .i64 a, .int .i64 b] w fun e w' => e = .returned (.tuple #[]) ∧ UG w g off (breakPatterns d a b) w' := by
  obtain ⟨L, rfl⟩ : ∃ L, b = a + L := ⟨b - a, by omega⟩
  by_cases h8 : 8 ≤ L
  · have h := u_break8 g off cap a L d w hH hg hb hsz h8
    rwa [show ((a : Int) + (L : Int)) = ((a + L : Nat) : Int) by omega] at h
  · have hv : breakPatterns d a (a + L) = d := by unfold breakPatterns; simp only [Nat.add_sub_cancel_left]; rw [if_neg h8]
    rw [hv]
    have HU := Lib.hid (UG.refl hH)
    clear hH
    go_enter Tryz.func127, Tryz.ntmps127
    go_wp2
    go_end0
    exact ⟨rfl, HU.out⟩
end Go.Proofs.YtgheloooibafcaaGreatDoor
