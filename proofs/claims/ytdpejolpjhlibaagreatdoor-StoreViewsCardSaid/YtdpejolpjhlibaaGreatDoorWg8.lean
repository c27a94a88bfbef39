/- The reference's weights. -/
import Derived.Test.YtdpejolpjhlibaaGreatDoorCt8
import Derived.Test.YtdpejolpjhlibaaGreatDoorWght
import Derived.Deep.RegionHeld3
import Derived.Deep.RegionWith
namespace Go.Proofs.YtdpejolpjhlibaaGreatDoor
open Go.RowKit Go.Sort

theorem pieces_head (c : UInt8) (l : List UInt8) : ∃ r, pieces c l = (cutB c l).1 :: r := by
  rw [pieces_cut]
  by_cases h : (cutB c l).2.2 = true
  · rw [if_pos h]; exact ⟨_, rfl⟩
  · rw [if_neg h]
    have h1 := (cutB_miss (c := c) (l := l) (by simpa using h)).1
    rw [h1]; exact ⟨[], rfl⟩
theorem pieces_none {c : UInt8} {l : List UInt8} (h : c ∉ l) : pieces c l = [l] := by
  rw [pieces_cut]
  by_cases hf : (cutB c l).2.2 = true
  · exact absurd (by rw [cutB_found hf]; simp) h
  · rw [if_neg hf]
theorem digits_no {l : List UInt8} (h : l.all digC = true) : (58 : UInt8) ∉ l := fun hm => by
  have := List.all_eq_true.1 h _ hm
  revert this; decide
theorem weight_not2 {x : List UInt8} (h : (pieces 58 x).length ≠ 2) : weightB x = false := by
  by_cases hf : (cutB 58 x).2.2 = true
  · have hp := pieces_cut 58 x
    rw [if_pos hf] at hp
    rw [hp, List.length_cons] at h
    have ht : tensO (cutB 58 x).2.1 1000000 = none := by
      unfold tensO
      rw [if_neg]
      rintro ⟨_, hd, _⟩
      rw [pieces_none (digits_no hd)] at h
      exact h rfl
    unfold weightB
    rw [ht]; simp
  · unfold weightB
    rw [show (cutB 58 x).2.2 = false by simpa using hf]; rfl
theorem weight_two {x a b : List UInt8} (h : pieces 58 x = [a, b]) : wName x = a ∧ (cutB 58 x).2.1 = b ∧ (cutB 58 x).2.2 = true := by
  have hp := pieces_cut 58 x
  by_cases hf : (cutB 58 x).2.2 = true
  · rw [if_pos hf, h] at hp
    injection hp with h1 h2
    obtain ⟨r, hr⟩ := pieces_head 58 (cutB 58 x).2.1
    have hm : (58 : UInt8) ∉ (cutB 58 x).2.1 := by
      intro hm
      have hc : (cutB 58 (cutB 58 x).2.1).2.2 = true := by
        cases hq : (cutB 58 (cutB 58 x).2.1).2.2 with
        | true => rfl
        | false =>
          exfalso
          have : ∀ l : List UInt8, (cutB 58 l).2.2 = false → (58 : UInt8) ∉ l := by
            intro l
            induction l with
            | nil => intro _ h; cases h
            | cons y l ih =>
              intro hy hmem
              unfold cutB at hy
              by_cases hyc : y = 58
              · rw [if_pos hyc] at hy; cases hy
              · rw [if_neg hyc] at hy
                rcases List.mem_cons.1 hmem with rfl | hmem
                · exact hyc rfl
                · exact ih hy hmem
          exact this _ hq hm
      have hp2 := pieces_cut 58 (cutB 58 x).2.1
      rw [if_pos hc, ← h2] at hp2
      injection hp2 with _ h3
      exact absurd h3.symm (pieces_ne _ _)
    rw [pieces_none hm] at h2
    injection h2 with h2 _
    exact ⟨h1.symm, h2.symm, hf⟩
  · rw [if_neg hf, h] at hp
    have := congrArg List.length hp
    simp at this
theorem weight_is {x a b : List UInt8} (h : pieces 58 x = [a, b]) : weightB x = (nameB a && (match tensO b 1000000 with | some v => decide (v ≠ 0) | none => false)) := by
  obtain ⟨h1, h2, h3⟩ := weight_two h
  unfold weightB
  rw [h1, h2, h3]; rfl
/-- Cut, its first piece at hand. -/
theorem r8_Cut1 (s : ByteArray) (c : UInt8) (w : World) (hs : s.size ≤ 1000000) :
    Calls Tryz.prog 109 #[.string s, .int .u8 (c.toNat : Int)] w fun e w' => (∃ (b off n cap : Nat) (L : List ByteArray), e = .returned (.slice (some ⟨b, off, none⟩) n cap) ∧ L.length = n ∧ 0 < n ∧ n ≤ s.size + 1 ∧ L.map ls = pieces c (ls s) ∧ b < w'.heap.size ∧ ∀ i x, L[i]? = some x → w'.cell? ⟨b, off + i, none⟩ = some (.string x)) ∧ Below w.heap.size w w' := by
  refine (r8_Cut s c w hs).mono ?_
  rintro e w' ⟨⟨A, cap, L, rfl, hm, hsl⟩, hb⟩
  have hne : L ≠ [] := fun h => pieces_ne c (ls s) (by rw [← hm, h]; rfl)
  obtain ⟨b, off, rfl, hlt, hc⟩ := hsl hne
  refine ⟨⟨b, off, L.length, cap, L, rfl, rfl, List.length_pos_iff.2 hne, ?_, hm, hlt, fun i x hx => ?_⟩, hb⟩
  · have := (pieces_le c (ls s)).1
    rw [← hm, List.length_map, ls_len] at this
    exact this
  · have := hc i x hx 0 _ rfl
    simpa using this
theorem piece_size {s : ByteArray} {c : UInt8} {L : List ByteArray} {x : ByteArray} (hm : L.map ls = pieces c (ls s)) (hx : x ∈ L) : x.size ≤ s.size := by
  have := (pieces_le c (ls s)).2 (ls x) (by rw [← hm]; exact List.mem_map.2 ⟨x, hx, rfl⟩)
  rw [ls_len, ls_len] at this
  exact this
set_option maxHeartbeats 4000000 in
set_option maxRecDepth 100000 in
theorem r8_weights (s : ByteArray) (w : World) (hs : s.size ≤ 1000000) :
    Calls Tryz.prog 85 #[.string s] w fun e w' => e = .returned (.bool (weightsB (ls s))) ∧ Below w.heap.size w w' := by
  have HCUT := Lib.hid (r8_Cut1 s 32 w hs)
  go_enter Tryz.func85, Tryz.ntmps85
  go_wp2_with fail
  refine HCUT.out.mono ?_
  rintro e w1 ⟨⟨b, off, n, cap, L, rfl, hn, hn0, hns, hm, hlt, hc⟩, hb⟩
  have HM := Lib.hid hm
  have HN := Lib.hid hn
  have HC := Lib.hid hc
  have HLT := Lib.hid hlt
  have HB1 := Lib.hid hb
  have HPN : Hid ((pieces 32 (ls s)).length = n) := Lib.hid (by rw [← hm, List.length_map]; exact hn)
  have HW0 : Hid (Below w1.heap.size w1 w1) := Lib.hid (Below.refl _ _)
  clear hm hn hc hlt hb HCUT
  obtain ⟨wz, hwz⟩ : ∃ x, x = w1 := ⟨_, rfl⟩
  rw [← hwz] at HC HLT HB1 HW0
  have HW1 : Hid (Below wz.heap.size wz w1) := Lib.hid (by rw [hwz]; exact Below.refl _ _)
  clear hwz HW0
  go_wp2
  go_loopw [4] (fun iv wr => ∃ k : Nat, k ≤ n ∧ iv = .int .i64 k ∧ Hid (((pieces 32 (ls s)).take k).all weightB = true ∧ (((pieces 32 (ls s)).take k).map wName).Nodup) ∧ Hid (Below wz.heap.size wz wr)) (fun iv _ => n - (intOf iv).toNat)
  case atStart => exact ⟨0, Nat.zero_le _, rfl, Lib.hid ⟨rfl, List.nodup_nil⟩, HW1⟩
  case round =>
    obtain ⟨k, hk, rfl, HP, HW⟩ := hrel
    by_cases hltk : k < n
    · obtain ⟨x, hx⟩ : ∃ x, L[k]? = some x := ⟨_, List.getElem?_eq_getElem (by have := HN.out; omega)⟩
      have C0 : wr.cell? ⟨b, off + k, none⟩ = some (.string x) := bCell HW.out (HC.out k x hx)
      have hxs := piece_size HM.out (List.mem_of_getElem? hx)
      have HPX : Hid ((pieces 32 (ls s))[k]? = some (ls x)) := Lib.hid (by rw [← HM.out, List.getElem?_map, hx]; rfl)
      have HCX := Lib.hid (r8_Cut1 x 58 wr (by omega))
      clear hx
      go_wp2_with fail
      refine HCX.out.mono ?_
      rintro e w2 ⟨⟨b2, off2, n2, cap2, M, rfl, hn2, hn20, hns2, hm2, hlt2, hc2⟩, hb2⟩
      have HW2 := Lib.hid (bTrans HW.out hb2)
      clear C0 hb2
      by_cases h2 : n2 = 2
      · have hd : ((n2 : Int) != 2) = false := by simp [h2]
        obtain ⟨p, q, hpq⟩ : ∃ p q, M = [p, q] := by
          match M, hn2.trans h2 with
          | [p, q], _ => exact ⟨p, q, rfl⟩
        subst hpq
        have hwi := weight_is hm2.symm
        have hpw := (weight_two hm2.symm).1
        have hps := piece_size hm2 (x := p) (by simp)
        have hqs := piece_size hm2 (x := q) (by simp)
        have HWI := Lib.hid hwi
        have HPW := Lib.hid hpw
        have HC2 := Lib.hid (hc2 0 p rfl)
        have HC3 := Lib.hid (hc2 1 q rfl)
        have HL2 := Lib.hid hlt2
        have D0 : w2.cell? ⟨b2, off2, none⟩ = some (.string p) := hc2 0 p rfl
        have D1 : w2.cell? ⟨b2, off2 + 1, none⟩ = some (.string q) := hc2 1 q rfl
        have h0n : 0 < n2 := hn20
        have h1n : 1 < n2 := by omega
        have HWD := Lib.hid (r8_Word p w2 (by omega))
        have HH2 := Lib.hid h2
        clear hwi hpw hc2 hlt2 hm2 hn2 h2
        obtain ⟨nb, hnb⟩ : ∃ z, nameB (ls p) = z := ⟨_, rfl⟩
        rw [hnb] at HWD HWI
        clear hnb
        go_wp2_with fail
        refine HWD.out.mono ?_
        rintro e w3 ⟨rfl, rfl⟩
        cases nb with
        | false =>
          have HF : Hid (weightsB (ls s) = false) := Lib.hid (weights_bad1 HPX.out (by rw [HWI.out]; rfl))
          go_wp2
          go_ret
          exact ⟨ret_b HF.out.symm, bTrans HB1.out HW2.out⟩
        | true =>
          have HTN := Lib.hid (r8_Tens q 1000000 w2 (by omega) (by omega))
          go_wp2_with fail
          refine HTN.out.mono ?_
          rintro e w3 ⟨⟨v, rfl, hv⟩, rfl⟩
          obtain ⟨t, ht⟩ : ∃ t, tensO (ls q) 1000000 = t := ⟨_, rfl⟩
          rw [ht] at hv HWI ⊢
          have HQ := Lib.hid ht
          clear HTN ht
          cases t with
          | none =>
            have HF : Hid (weightsB (ls s) = false) := Lib.hid (weights_bad1 HPX.out (by rw [HWI.out]; rfl))
            clear hv
            simp only [Option.isSome_none]
            go_wp2
            go_ret
            exact ⟨ret_b HF.out.symm, bTrans HB1.out HW2.out⟩
          | some v0 =>
            obtain rfl : v = v0 := hv v0 rfl
            clear hv
            simp only [Option.isSome_some]
            by_cases hv0 : v = 0
            · have hdv : ((v : Int) == 0) = true := by simp [hv0]
              have HF : Hid (weightsB (ls s) = false) := Lib.hid (weights_bad1 HPX.out (by rw [HWI.out]; simp [hv0]))
              clear hv0
              go_wp2
              go_ret
              exact ⟨ret_b HF.out.symm, bTrans HB1.out HW2.out⟩
            · have hdv : ((v : Int) == 0) = false := by simp; omega
              have HWT : Hid (weightB (ls x) = true) := Lib.hid (by rw [HWI.out]; simp [hv0])
              clear hv0 D0 D1
              obtain ⟨wy, hwy⟩ : ∃ z, z = w2 := ⟨_, rfl⟩
              rw [← hwy] at HC2 HC3 HL2
              have HWY : Hid (Below wz.heap.size wz wy) := Lib.hid (by rw [hwy]; exact HW2.out)
              have HWS : Hid (Below wy.heap.size wy w2) := Lib.hid (by rw [hwy]; exact Below.refl _ _)
              clear hwy HW2
              go_wp2
              go_loopw [8] (fun jv wr => ∃ j : Nat, j ≤ k ∧ jv = .int .i64 j ∧ Hid (wName (ls x) ∉ ((pieces 32 (ls s)).take j).map wName) ∧ Hid (Below wy.heap.size wy wr)) (fun jv _ => k - (intOf jv).toNat)
              case atStart => exact ⟨0, Nat.zero_le _, rfl, Lib.hid (by simp), HWS⟩
              case round =>
                obtain ⟨j, hj, rfl, HJ, HWR⟩ := hrel
                by_cases hltj : j < k
                · obtain ⟨y, hy⟩ : ∃ y, L[j]? = some y := ⟨_, List.getElem?_eq_getElem (by have := HN.out; omega)⟩
                  have HPY : Hid ((pieces 32 (ls s))[j]? = some (ls y)) := Lib.hid (by rw [← HM.out, List.getElem?_map, hy]; rfl)
                  have hys := piece_size HM.out (List.mem_of_getElem? hy)
                  have HKP : Hid (∀ W, Below wy.heap.size wy W → W.cell? ⟨b, off + j, none⟩ = some (.string y) ∧ W.cell? ⟨b2, off2, none⟩ = some (.string p)) := Lib.hid fun W hW => ⟨bCell (bTrans HWY.out hW) (HC.out j y hy), bCell hW HC2.out⟩
                  have HCY : Hid (∀ W, Calls Tryz.prog 109 #[.string y, .int .u8 58] W fun e w' => (∃ (b off n cap : Nat) (z : ByteArray), e = .returned (.slice (some ⟨b, off, none⟩) n cap) ∧ 0 < n ∧ ls z = wName (ls y) ∧ w'.cell? ⟨b, off, none⟩ = some (.string z)) ∧ Below W.heap.size W w') := Lib.hid fun W => by
                    refine (r8_Cut1 y 58 W (by omega)).mono ?_
                    rintro e w' ⟨⟨b, off, n, cap, M, rfl, hn, hn0, _, hm, _, hc⟩, hb⟩
                    obtain ⟨r, hr⟩ := pieces_head 58 (ls y)
                    obtain ⟨z, M', rfl⟩ := List.exists_cons_of_length_pos (show 0 < M.length by omega)
                    rw [hr] at hm
                    injection hm with h1 _
                    exact ⟨⟨b, off, n, cap, z, rfl, hn0, h1, by have := hc 0 z rfl; simpa using this⟩, hb⟩
                  obtain ⟨E0, E1⟩ := HKP.out wr HWR.out
                  have HX : Hid (Below wy.heap.size wy wr.drew) := Lib.hid (bTrans HWR.out (bDrew _))
                  have hltn : j < n := by omega
                  clear hy
                  go_wp2_with fail
                  go_region_with (go_at_call 109; with_reducible refine (HCY.out _).mono ?_; rintro e wn ⟨⟨b3, off3, n3, cap3, z, rfl, hn3, hz, hcz⟩, hbn⟩; have E2 := (HKP.out _ (bTrans HX.out hbn)).2; have HBN := Lib.hid hbn; have HZ := Lib.hid hz; obtain ⟨bb, hbb⟩ : ∃ bb, (z.toList == p.toList) = bb := ⟨_, rfl⟩; clear hbn hz)
                  all_goals
                    have HBB := Lib.hid hbb
                    have HX2 := Lib.hid (bTrans HX.out HBN.out)
                    clear hbb hcz E0 E1 E2
                    cases bb with
                    | true =>
                      have HF : Hid (weightsB (ls s) = false) := Lib.hid (weights_bad2 HPX.out (List.mem_map.2 ⟨ls y, List.mem_of_getElem? (by rw [List.getElem?_take, if_pos hltj]; exact HPY.out), by
                        rw [← HZ.out, HPW.out]
                        have h := HBB.out
                        rw [beq_ls] at h
                        have h2 := of_decide_eq_true h
                        rw [h2]
                        unfold ls
                        rw [ByteArray.toList_eq]⟩))
                      go_wp2
                      go_ret
                      exact ⟨ret_b HF.out.symm, bTrans HB1.out (bTrans HWY.out HX2.out)⟩
                    | false =>
                      have HJ2 : Hid (wName (ls x) ∉ ((pieces 32 (ls s)).take (j + 1)).map wName) := Lib.hid (by
                        rw [List.take_add_one, HPY.out, List.map_append, List.mem_append]
                        rintro (h | h)
                        · exact HJ.out h
                        · have h1 : wName (ls x) = wName (ls y) := by simpa using h
                          rw [HPW.out, ← HZ.out] at h1
                          have h2 := HBB.out
                          rw [ls_inj h1, beq_self_eq_true] at h2
                          cases h2)
                      go_wp2
                      exact ⟨⟨j + 1, by omega, by go_num, HJ2, HX2⟩, by simp [intOf]; omega⟩
                · obtain rfl : j = k := by omega
                  have HP2 : Hid (((pieces 32 (ls s)).take (j + 1)).all weightB = true ∧ (((pieces 32 (ls s)).take (j + 1)).map wName).Nodup) := Lib.hid ⟨all_more HP.out.1 HPX.out HWT.out, nodup_more HPX.out HP.out.2 HJ.out⟩
                  go_wp2
                  exact ⟨⟨j + 1, by omega, by go_num, HP2, Lib.hid (bTrans HWY.out HWR.out)⟩, by simp [intOf]; omega⟩
      · have hd : ((n2 : Int) != 2) = true := by simp; omega
        have HF : Hid (weightsB (ls s) = false) := Lib.hid (weights_bad1 HPX.out (weight_not2 (by rw [← hm2, List.length_map, hn2]; exact h2)))
        clear hn2 hm2 hc2
        go_wp2
        go_ret
        exact ⟨ret_b HF.out.symm, bTrans HB1.out HW2.out⟩
    · obtain rfl : k = n := by omega
      have HF : Hid (weightsB (ls s) = decide (k < 65)) := Lib.hid (by
        have h1 := HP.out
        rw [List.take_of_length_le (by rw [HPN.out]; exact Nat.le_refl _)] at h1
        rw [weights_end h1.1 h1.2, HPN.out]
        exact decide_eq_decide.2 (by omega))
      go_wp2
      go_ret
      exact ⟨ret_b (by rw [HF.out]; exact decide_eq_decide.2 (by omega)), bTrans HB1.out HW.out⟩
end Go.Proofs.YtdpejolpjhlibaaGreatDoor
