/- Numbers in tens: the reference's reading. -/
import Derived.Test.YtdpejolpjhlibaaGreatDoorTxts
import Derived.Laws.Bits64
namespace Go.Proofs.YtdpejolpjhlibaaGreatDoor
open Go.RowKit

set_option maxHeartbeats 2000000 in
theorem r8_Tens (s : ByteArray) (most : Nat) (w : World) (hm : most ≤ 18446744073709551615) (hs : s.size ≤ 1000000) : Calls Tryz.prog 86 #[.string s, .int .u64 most] w fun e w' => TensIs (ls s) most e ∧ w = w' := by
  go_enter Tryz.func86, Tryz.ntmps86
  go_upto_region 1 with fail
  go_cut [21] from 9 to 21 (fun q wx => q = .bool (!neat (ls s)) ∧ w = wx)
  case first =>
    by_cases h0 : s.size = 0
    · have he : ((s.size : Int) == 0) = true := beq_iff_eq.2 (by omega)
      have HN : Hid (neat (ls s) = false) := Lib.hid (by rw [(nil_iff s).2 h0]; rfl)
      clear h0
      go_wp2
      go_meet
      exact ⟨by rw [HN.out]; rfl, rfl⟩
    have he : ((s.size : Int) == 0) = false := beq_eq_false_iff_ne.2 (by omega)
    by_cases h1 : (1 : Int) < (s.size : Int)
    · have hix0 : ∀ w, (Instr.index 9 (.string s) (.int .i64 0)).run Tryz.prog w = .ok (.int .u8 (byteAt s 0)) w := run_at (P := Tryz.prog) 9 Tryz.underlying9 s 0 (by omega)
      obtain ⟨b0, hb0, hc0⟩ := byte_some (s := s) (k := 0) (by omega)
      generalize byteAt s 0 = c0 at *
      have HN : Hid (neat (ls s) = decide (c0 ≠ 48)) := Lib.hid (by rw [neat_two (by omega) hb0, hc0]; by_cases h : b0.toNat = 48 <;> simp [h]; omega)
      clear hb0 hc0
      by_cases h2 : c0 = 48
      · have h3 : (c0 == 48) = true := beq_iff_eq.2 h2
        have HN2 : Hid (neat (ls s) = false) := Lib.hid (by rw [HN.out]; simp [h2])
        clear h2
        go_wp2
        go_meet
        exact ⟨by rw [HN2.out]; rfl, rfl⟩
      · have h3 : (c0 == 48) = false := beq_eq_false_iff_ne.2 h2
        have HN2 : Hid (neat (ls s) = true) := Lib.hid (by rw [HN.out]; simp [h2])
        clear h2
        go_wp2
        go_meet
        exact ⟨by rw [HN2.out]; rfl, rfl⟩
    · have HN : Hid (neat (ls s) = true) := Lib.hid (neat_one (by omega))
      go_wp2
      go_meet
      exact ⟨by rw [HN.out]; rfl, rfl⟩
  case rest =>
  obtain ⟨rfl, rfl⟩ := hcut
  by_cases hn : neat (ls s) = true
  · have HNT := Lib.hid hn
    rw [hn]
    clear hn
    go_wp2
    go_loop [6, 7, 8] (fun nv iv _ => ∃ k n : Nat, k ≤ s.size ∧ iv = .int .i64 k ∧ nv = .int .u64 n ∧ n ≤ most ∧ Hid (numL 0 ((ls s).take k) = n) ∧ Hid (((ls s).take k).all digC = true)) (fun _ iv _ => s.size - (intOf iv).toNat)
    case atStart => exact ⟨0, 0, Nat.zero_le _, rfl, rfl, by omega, Lib.hid rfl, Lib.hid rfl⟩
    case round =>
      obtain ⟨k, n, hk, rfl, rfl, hnm, HV, HP⟩ := hrel
      by_cases hlt : k < s.size
      · have hix := run_at (P := Tryz.prog) 9 Tryz.underlying9 s k hlt
        have hbd := byteAt_bd s k
        obtain ⟨b, hb, hcb⟩ := byte_some hlt
        have HB := Lib.hid hb
        have HC := Lib.hid hcb
        clear hb hcb
        generalize byteAt s k = c at *
        by_cases h1 : c < 48
        · have HF := Lib.hid (TensIs.none_ (most := most) (tensO_bad (all_bad HB.out (by have := HC.out; unfold digC; simp; omega))) 0)
          go_wp2
          go_ret2
          exact ⟨HF.out, rfl⟩
        by_cases h2 : 57 < c
        · have HF := Lib.hid (TensIs.none_ (most := most) (tensO_bad (all_bad HB.out (by have := HC.out; unfold digC; simp; omega))) 0)
          go_wp2
          go_ret2
          exact ⟨HF.out, rfl⟩
        have HN : Hid (((ls s).take (k + 1)).all digC = true) := Lib.hid (all_more HP.out HB.out (by have := HC.out; unfold digC; simp; omega))
        have HV2 : Hid (numL 0 ((ls s).take (k + 1)) = 10 * n + (c.toNat - 48)) := Lib.hid (by rw [numL_more HB.out, HV.out]; have := HC.out; omega)
        by_cases h3 : most / 10 < n
        · have HF := Lib.hid (TensIs.none_ (most := most) (tensO_big (l := ls s) (by have := numL_take_le (ls s) (k + 1); have := HV2.out; omega)) 0)
          have h4 : (most : Int) / 10 < (n : Int) := by omega
          go_wp2
          go_ret2
          exact ⟨HF.out, rfl⟩
        have h4 : ¬ (most : Int) / 10 < (n : Int) := by omega
        have h5 : IntKind.u64.wrap (10 * (n : Int)) = 10 * (n : Int) := by rw [IntKind.wrap_u64]; omega
        by_cases h6 : (most : Int) < c - 48
        · have HF := Lib.hid (TensIs.none_ (most := most) (tensO_big (l := ls s) (by have := numL_take_le (ls s) (k + 1); have := HV2.out; omega)) 0)
          have h7 : IntKind.u64.wrap ((most : Int) - (c - 48)) = (most : Int) - (c - 48) + 18446744073709551616 := by rw [IntKind.wrap_u64]; omega
          have h8 : ¬ (most : Int) - (c - 48) + 18446744073709551616 < 10 * (n : Int) := by omega
          go_wp2
          go_ret2
          exact ⟨HF.out, rfl⟩
        by_cases h7 : (most : Int) - (c - 48) < 10 * (n : Int)
        · have HF := Lib.hid (TensIs.none_ (most := most) (tensO_big (l := ls s) (by have := numL_take_le (ls s) (k + 1); have := HV2.out; omega)) 0)
          go_wp2
          go_ret2
          exact ⟨HF.out, rfl⟩
        have hnn : 10 * n + (c.toNat - 48) ≤ most := by omega
        go_wp2
        go_round
        case rel => exact ⟨k + 1, 10 * n + (c.toNat - 48), by omega, by go_num, by go_num, hnn, HV2, HN⟩
        case measure => simp [intOf]; omega
      · obtain rfl : k = s.size := by omega
        have HD : Hid ((ls s).all digC = true) := Lib.hid (by have := HP.out; rwa [List.take_of_length_le (by rw [ls_len]; omega)] at this)
        have HF : Hid (tensO (ls s) most = some n) := Lib.hid (by have := HV.out; rw [List.take_of_length_le (by rw [ls_len]; omega)] at this; rw [← this]; exact tensO_ok HNT.out HD.out (by omega))
        have HG := Lib.hid (TensIs.some_ HF.out)
        go_wp2
        go_ret2
        exact ⟨HG.out, rfl⟩
  · have hn2 : neat (ls s) = false := by simpa using hn
    have HN := Lib.hid (TensIs.none_ (most := most) (tensO_unneat hn2) 0)
    rw [hn2]
    clear hn hn2
    go_wp2
    go_ret2
    exact ⟨HN.out, rfl⟩
end Go.Proofs.YtdpejolpjhlibaaGreatDoor
