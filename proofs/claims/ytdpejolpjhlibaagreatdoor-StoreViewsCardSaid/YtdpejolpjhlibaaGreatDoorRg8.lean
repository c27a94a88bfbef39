/- The reference's look at a fact: its code, its text, and all of it. -/
import Derived.Test.YtdpejolpjhlibaaGreatDoorRf8
namespace Go.Proofs.YtdpejolpjhlibaaGreatDoor
open Go.RowKit Go.Sort

theorem empty_is (s : ByteArray) : s.toList.isEmpty = (ls s == []) := isEmpty_ls s
set_option maxHeartbeats 1000000 in
theorem r8_code1 (id pe fr tt : Int) (co : ByteArray) (nu : Int) (tx : ByteArray) (w : World) : Calls Tryz.prog 59 #[.agg #[.int .u32 id, .int .u32 pe, .int .i64 1, .int .i64 fr, .int .i64 tt, .string co, .int .i64 nu, .string tx]] w fun e w' => e = .returned (.bool (codeB 1 (ls co))) ∧ Below w.heap.size w w' := by
  obtain ⟨pb, hpb⟩ : ∃ x, w.heap.size = x := ⟨_, rfl⟩
  obtain ⟨w2, hw2⟩ : ∃ x, w.alloc (.cells #[.int .u32 id, .int .u32 pe, .int .i64 1, .int .i64 fr, .int .i64 tt, .string co, .int .i64 nu, .string tx] 37) = x := ⟨_, rfl⟩
  have HB2 : Hid (Below w.heap.size w w2) := Lib.hid (by rw [← hw2]; exact bAlloc _ _)
  have HBK : Hid (Bk pb 37 #[.int .u32 id, .int .u32 pe, .int .i64 1, .int .i64 fr, .int .i64 tt, .string co, .int .i64 nu, .string tx] w2) := Lib.hid (by rw [← hw2, ← hpb]; exact Bk.new _ _ _)
  have HE := Lib.hid (And.intro hpb hw2)
  have E2 : w2.cell? ⟨pb, 2, none⟩ = some (.int .i64 1) := HBK.out.cell 2
  have E5 : w2.cell? ⟨pb, 5, none⟩ = some (.string co) := HBK.out.cell 5
  have E6 : w2.cell? ⟨pb, 6, none⟩ = some (.int .i64 nu) := HBK.out.cell 6
  have E7 : w2.cell? ⟨pb, 7, none⟩ = some (.string tx) := HBK.out.cell 7
  clear hpb hw2
  have HF : Hid (codeB 1 (ls co) = (ls co == [])) := Lib.hid rfl
  have HI := Lib.hid (isEmpty_ls co)
  obtain ⟨v, hv⟩ : ∃ v, co.toList.isEmpty = v := ⟨_, rfl⟩
  rw [hv] at HI
  go_enter Tryz.func59, Tryz.ntmps59
  go_upto_region 1 with fail
  rw [HE.out.1, HE.out.2]
  go_wp2
  go_ret
  exact ⟨ret_b (by rw [HF.out, ← HI.out]), HB2.out⟩
set_option maxHeartbeats 1000000 in
theorem r8_code2 (id pe fr tt : Int) (co : ByteArray) (nu : Int) (tx : ByteArray) (w : World) : Calls Tryz.prog 59 #[.agg #[.int .u32 id, .int .u32 pe, .int .i64 2, .int .i64 fr, .int .i64 tt, .string co, .int .i64 nu, .string tx]] w fun e w' => e = .returned (.bool (codeB 2 (ls co))) ∧ Below w.heap.size w w' := by
  obtain ⟨pb, hpb⟩ : ∃ x, w.heap.size = x := ⟨_, rfl⟩
  obtain ⟨w2, hw2⟩ : ∃ x, w.alloc (.cells #[.int .u32 id, .int .u32 pe, .int .i64 2, .int .i64 fr, .int .i64 tt, .string co, .int .i64 nu, .string tx] 37) = x := ⟨_, rfl⟩
  have HB2 : Hid (Below w.heap.size w w2) := Lib.hid (by rw [← hw2]; exact bAlloc _ _)
  have HBK : Hid (Bk pb 37 #[.int .u32 id, .int .u32 pe, .int .i64 2, .int .i64 fr, .int .i64 tt, .string co, .int .i64 nu, .string tx] w2) := Lib.hid (by rw [← hw2, ← hpb]; exact Bk.new _ _ _)
  have HE := Lib.hid (And.intro hpb hw2)
  have E2 : w2.cell? ⟨pb, 2, none⟩ = some (.int .i64 2) := HBK.out.cell 2
  have E5 : w2.cell? ⟨pb, 5, none⟩ = some (.string co) := HBK.out.cell 5
  have E6 : w2.cell? ⟨pb, 6, none⟩ = some (.int .i64 nu) := HBK.out.cell 6
  have E7 : w2.cell? ⟨pb, 7, none⟩ = some (.string tx) := HBK.out.cell 7
  clear hpb hw2
  have HF : Hid (codeB 2 (ls co) = (ls co == [])) := Lib.hid rfl
  have HI := Lib.hid (isEmpty_ls co)
  obtain ⟨v, hv⟩ : ∃ v, co.toList.isEmpty = v := ⟨_, rfl⟩
  rw [hv] at HI
  go_enter Tryz.func59, Tryz.ntmps59
  go_upto_region 1 with fail
  rw [HE.out.1, HE.out.2]
  go_wp2
  go_ret
  exact ⟨ret_b (by rw [HF.out, ← HI.out]), HB2.out⟩
set_option maxHeartbeats 1000000 in
theorem r8_code3 (id pe fr tt : Int) (co : ByteArray) (nu : Int) (tx : ByteArray) (w : World) : Calls Tryz.prog 59 #[.agg #[.int .u32 id, .int .u32 pe, .int .i64 3, .int .i64 fr, .int .i64 tt, .string co, .int .i64 nu, .string tx]] w fun e w' => e = .returned (.bool (codeB 3 (ls co))) ∧ Below w.heap.size w w' := by
  obtain ⟨pb, hpb⟩ : ∃ x, w.heap.size = x := ⟨_, rfl⟩
  obtain ⟨w2, hw2⟩ : ∃ x, w.alloc (.cells #[.int .u32 id, .int .u32 pe, .int .i64 3, .int .i64 fr, .int .i64 tt, .string co, .int .i64 nu, .string tx] 37) = x := ⟨_, rfl⟩
  have HB2 : Hid (Below w.heap.size w w2) := Lib.hid (by rw [← hw2]; exact bAlloc _ _)
  have HBK : Hid (Bk pb 37 #[.int .u32 id, .int .u32 pe, .int .i64 3, .int .i64 fr, .int .i64 tt, .string co, .int .i64 nu, .string tx] w2) := Lib.hid (by rw [← hw2, ← hpb]; exact Bk.new _ _ _)
  have HE := Lib.hid (And.intro hpb hw2)
  have E2 : w2.cell? ⟨pb, 2, none⟩ = some (.int .i64 3) := HBK.out.cell 2
  have E5 : w2.cell? ⟨pb, 5, none⟩ = some (.string co) := HBK.out.cell 5
  have E6 : w2.cell? ⟨pb, 6, none⟩ = some (.int .i64 nu) := HBK.out.cell 6
  have E7 : w2.cell? ⟨pb, 7, none⟩ = some (.string tx) := HBK.out.cell 7
  clear hpb hw2
  have HF : Hid (codeB 3 (ls co) = (ls co == [])) := Lib.hid rfl
  have HI := Lib.hid (isEmpty_ls co)
  obtain ⟨v, hv⟩ : ∃ v, co.toList.isEmpty = v := ⟨_, rfl⟩
  rw [hv] at HI
  go_enter Tryz.func59, Tryz.ntmps59
  go_upto_region 1 with fail
  rw [HE.out.1, HE.out.2]
  go_wp2
  go_ret
  exact ⟨ret_b (by rw [HF.out, ← HI.out]), HB2.out⟩
set_option maxHeartbeats 1000000 in
theorem r8_code4 (id pe fr tt : Int) (co : ByteArray) (nu : Int) (tx : ByteArray) (w : World) : Calls Tryz.prog 59 #[.agg #[.int .u32 id, .int .u32 pe, .int .i64 4, .int .i64 fr, .int .i64 tt, .string co, .int .i64 nu, .string tx]] w fun e w' => e = .returned (.bool (codeB 4 (ls co))) ∧ Below w.heap.size w w' := by
  obtain ⟨pb, hpb⟩ : ∃ x, w.heap.size = x := ⟨_, rfl⟩
  obtain ⟨w2, hw2⟩ : ∃ x, w.alloc (.cells #[.int .u32 id, .int .u32 pe, .int .i64 4, .int .i64 fr, .int .i64 tt, .string co, .int .i64 nu, .string tx] 37) = x := ⟨_, rfl⟩
  have HB2 : Hid (Below w.heap.size w w2) := Lib.hid (by rw [← hw2]; exact bAlloc _ _)
  have HBK : Hid (Bk pb 37 #[.int .u32 id, .int .u32 pe, .int .i64 4, .int .i64 fr, .int .i64 tt, .string co, .int .i64 nu, .string tx] w2) := Lib.hid (by rw [← hw2, ← hpb]; exact Bk.new _ _ _)
  have HE := Lib.hid (And.intro hpb hw2)
  have E2 : w2.cell? ⟨pb, 2, none⟩ = some (.int .i64 4) := HBK.out.cell 2
  have E5 : w2.cell? ⟨pb, 5, none⟩ = some (.string co) := HBK.out.cell 5
  have E6 : w2.cell? ⟨pb, 6, none⟩ = some (.int .i64 nu) := HBK.out.cell 6
  have E7 : w2.cell? ⟨pb, 7, none⟩ = some (.string tx) := HBK.out.cell 7
  clear hpb hw2
  have HF : Hid (codeB 4 (ls co) = (ls co == [])) := Lib.hid rfl
  have HI := Lib.hid (isEmpty_ls co)
  obtain ⟨v, hv⟩ : ∃ v, co.toList.isEmpty = v := ⟨_, rfl⟩
  rw [hv] at HI
  go_enter Tryz.func59, Tryz.ntmps59
  go_upto_region 1 with fail
  rw [HE.out.1, HE.out.2]
  go_wp2
  go_ret
  exact ⟨ret_b (by rw [HF.out, ← HI.out]), HB2.out⟩
set_option maxHeartbeats 1000000 in
theorem r8_code5 (id pe fr tt : Int) (co : ByteArray) (nu : Int) (tx : ByteArray) (w : World) : Calls Tryz.prog 59 #[.agg #[.int .u32 id, .int .u32 pe, .int .i64 5, .int .i64 fr, .int .i64 tt, .string co, .int .i64 nu, .string tx]] w fun e w' => e = .returned (.bool (codeB 5 (ls co))) ∧ Below w.heap.size w w' := by
  obtain ⟨pb, hpb⟩ : ∃ x, w.heap.size = x := ⟨_, rfl⟩
  obtain ⟨w2, hw2⟩ : ∃ x, w.alloc (.cells #[.int .u32 id, .int .u32 pe, .int .i64 5, .int .i64 fr, .int .i64 tt, .string co, .int .i64 nu, .string tx] 37) = x := ⟨_, rfl⟩
  have HB2 : Hid (Below w.heap.size w w2) := Lib.hid (by rw [← hw2]; exact bAlloc _ _)
  have HBK : Hid (Bk pb 37 #[.int .u32 id, .int .u32 pe, .int .i64 5, .int .i64 fr, .int .i64 tt, .string co, .int .i64 nu, .string tx] w2) := Lib.hid (by rw [← hw2, ← hpb]; exact Bk.new _ _ _)
  have HE := Lib.hid (And.intro hpb hw2)
  have E2 : w2.cell? ⟨pb, 2, none⟩ = some (.int .i64 5) := HBK.out.cell 2
  have E5 : w2.cell? ⟨pb, 5, none⟩ = some (.string co) := HBK.out.cell 5
  have E6 : w2.cell? ⟨pb, 6, none⟩ = some (.int .i64 nu) := HBK.out.cell 6
  have E7 : w2.cell? ⟨pb, 7, none⟩ = some (.string tx) := HBK.out.cell 7
  clear hpb hw2
  have HF : Hid (codeB 5 (ls co) = (ls co == [])) := Lib.hid rfl
  have HI := Lib.hid (isEmpty_ls co)
  obtain ⟨v, hv⟩ : ∃ v, co.toList.isEmpty = v := ⟨_, rfl⟩
  rw [hv] at HI
  go_enter Tryz.func59, Tryz.ntmps59
  go_upto_region 1 with fail
  rw [HE.out.1, HE.out.2]
  go_wp2
  go_ret
  exact ⟨ret_b (by rw [HF.out, ← HI.out]), HB2.out⟩
set_option maxHeartbeats 1000000 in
theorem r8_code6 (id pe fr tt : Int) (co : ByteArray) (nu : Int) (tx : ByteArray) (w : World) (hc : co.size ≤ 1000000) : Calls Tryz.prog 59 #[.agg #[.int .u32 id, .int .u32 pe, .int .i64 6, .int .i64 fr, .int .i64 tt, .string co, .int .i64 nu, .string tx]] w fun e w' => e = .returned (.bool (codeB 6 (ls co))) ∧ Below w.heap.size w w' := by
  obtain ⟨pb, hpb⟩ : ∃ x, w.heap.size = x := ⟨_, rfl⟩
  obtain ⟨w2, hw2⟩ : ∃ x, w.alloc (.cells #[.int .u32 id, .int .u32 pe, .int .i64 6, .int .i64 fr, .int .i64 tt, .string co, .int .i64 nu, .string tx] 37) = x := ⟨_, rfl⟩
  have HB2 : Hid (Below w.heap.size w w2) := Lib.hid (by rw [← hw2]; exact bAlloc _ _)
  have HBK : Hid (Bk pb 37 #[.int .u32 id, .int .u32 pe, .int .i64 6, .int .i64 fr, .int .i64 tt, .string co, .int .i64 nu, .string tx] w2) := Lib.hid (by rw [← hw2, ← hpb]; exact Bk.new _ _ _)
  have HE := Lib.hid (And.intro hpb hw2)
  have E2 : w2.cell? ⟨pb, 2, none⟩ = some (.int .i64 6) := HBK.out.cell 2
  have E5 : w2.cell? ⟨pb, 5, none⟩ = some (.string co) := HBK.out.cell 5
  have E6 : w2.cell? ⟨pb, 6, none⟩ = some (.int .i64 nu) := HBK.out.cell 6
  have E7 : w2.cell? ⟨pb, 7, none⟩ = some (.string tx) := HBK.out.cell 7
  clear hpb hw2
  have HV : Hid (codeB 6 (ls co) = ((ls co == []) || nameB (ls co))) := Lib.hid rfl
  have HI := Lib.hid (isEmpty_ls co)
  obtain ⟨v, hv⟩ : ∃ v, co.toList.isEmpty = v := ⟨_, rfl⟩
  rw [hv] at HI
  cases v with
  | true =>
    have HF : Hid (codeB 6 (ls co) = true) := Lib.hid (by rw [HV.out, ← HI.out]; rfl)
    go_enter Tryz.func59, Tryz.ntmps59
    go_upto_region 1 with fail
    rw [HE.out.1, HE.out.2]
    go_wp2
    go_ret
    exact ⟨ret_b HF.out.symm, HB2.out⟩
  | false =>
    have HF : Hid (codeB 6 (ls co) = nameB (ls co)) := Lib.hid (by rw [HV.out, ← HI.out]; rfl)
    have HW := Lib.hid (r8_Word co w2 hc)
    go_enter Tryz.func59, Tryz.ntmps59
    go_upto_region 1 with fail
    rw [HE.out.1, HE.out.2]
    go_wp2_with fail
    refine HW.out.mono ?_
    rintro e w3 ⟨rfl, rfl⟩
    go_wp2
    go_ret
    exact ⟨ret_b HF.out.symm, HB2.out⟩
set_option maxHeartbeats 1000000 in
theorem r8_code7 (id pe fr tt : Int) (co : ByteArray) (nu : Int) (tx : ByteArray) (w : World) : Calls Tryz.prog 59 #[.agg #[.int .u32 id, .int .u32 pe, .int .i64 7, .int .i64 fr, .int .i64 tt, .string co, .int .i64 nu, .string tx]] w fun e w' => e = .returned (.bool (codeB 7 (ls co))) ∧ Below w.heap.size w w' := by
  obtain ⟨pb, hpb⟩ : ∃ x, w.heap.size = x := ⟨_, rfl⟩
  obtain ⟨w2, hw2⟩ : ∃ x, w.alloc (.cells #[.int .u32 id, .int .u32 pe, .int .i64 7, .int .i64 fr, .int .i64 tt, .string co, .int .i64 nu, .string tx] 37) = x := ⟨_, rfl⟩
  have HB2 : Hid (Below w.heap.size w w2) := Lib.hid (by rw [← hw2]; exact bAlloc _ _)
  have HBK : Hid (Bk pb 37 #[.int .u32 id, .int .u32 pe, .int .i64 7, .int .i64 fr, .int .i64 tt, .string co, .int .i64 nu, .string tx] w2) := Lib.hid (by rw [← hw2, ← hpb]; exact Bk.new _ _ _)
  have HE := Lib.hid (And.intro hpb hw2)
  have E2 : w2.cell? ⟨pb, 2, none⟩ = some (.int .i64 7) := HBK.out.cell 2
  have E5 : w2.cell? ⟨pb, 5, none⟩ = some (.string co) := HBK.out.cell 5
  have E6 : w2.cell? ⟨pb, 6, none⟩ = some (.int .i64 nu) := HBK.out.cell 6
  have E7 : w2.cell? ⟨pb, 7, none⟩ = some (.string tx) := HBK.out.cell 7
  clear hpb hw2
  have HV : Hid (codeB 7 (ls co) = absenceB (ls co)) := Lib.hid rfl
  obtain ⟨v0, h0⟩ : ∃ v, (co.toList == [115, 105, 99, 107]) = v := ⟨_, rfl⟩
  have HB0x := Lib.hid (by rw [beq_ls] at h0; exact h0)
  obtain ⟨v1, h1⟩ : ∃ v, (co.toList == [108, 101, 97, 118, 101]) = v := ⟨_, rfl⟩
  have HB1x := Lib.hid (by rw [beq_ls] at h1; exact h1)
  obtain ⟨v2, h2⟩ : ∃ v, (co.toList == [117, 110, 112, 97, 105, 100]) = v := ⟨_, rfl⟩
  have HB2x := Lib.hid (by rw [beq_ls] at h2; exact h2)
  obtain ⟨v3, h3⟩ : ∃ v, (co.toList == [112, 97, 114, 101, 110, 116, 97, 108]) = v := ⟨_, rfl⟩
  have HB3x := Lib.hid (by rw [beq_ls] at h3; exact h3)
  have HA : Hid (absenceB (ls co) = (v0 || v1 || v2 || v3)) := Lib.hid (by
    unfold absenceB
    rw [← HB0x.out, ← HB1x.out, ← HB2x.out, ← HB3x.out]
    simp only [Bool.decide_or, Bool.or_assoc])
  cases v0
  all_goals cases v1
  all_goals cases v2
  all_goals cases v3
  all_goals
    have HF := Lib.hid (HV.out.trans HA.out)
    go_enter Tryz.func59, Tryz.ntmps59
    go_upto_region 1 with fail
    rw [HE.out.1, HE.out.2]
    go_wp2
    go_ret
    exact ⟨ret_b (by rw [HF.out]; rfl), HB2.out⟩
set_option maxHeartbeats 1000000 in
theorem r8_code8 (id pe fr tt : Int) (co : ByteArray) (nu : Int) (tx : ByteArray) (w : World) (hc : co.size ≤ 1000000) : Calls Tryz.prog 59 #[.agg #[.int .u32 id, .int .u32 pe, .int .i64 8, .int .i64 fr, .int .i64 tt, .string co, .int .i64 nu, .string tx]] w fun e w' => e = .returned (.bool (codeB 8 (ls co))) ∧ Below w.heap.size w w' := by
  obtain ⟨pb, hpb⟩ : ∃ x, w.heap.size = x := ⟨_, rfl⟩
  obtain ⟨w2, hw2⟩ : ∃ x, w.alloc (.cells #[.int .u32 id, .int .u32 pe, .int .i64 8, .int .i64 fr, .int .i64 tt, .string co, .int .i64 nu, .string tx] 37) = x := ⟨_, rfl⟩
  have HB2 : Hid (Below w.heap.size w w2) := Lib.hid (by rw [← hw2]; exact bAlloc _ _)
  have HBK : Hid (Bk pb 37 #[.int .u32 id, .int .u32 pe, .int .i64 8, .int .i64 fr, .int .i64 tt, .string co, .int .i64 nu, .string tx] w2) := Lib.hid (by rw [← hw2, ← hpb]; exact Bk.new _ _ _)
  have HE := Lib.hid (And.intro hpb hw2)
  have E2 : w2.cell? ⟨pb, 2, none⟩ = some (.int .i64 8) := HBK.out.cell 2
  have E5 : w2.cell? ⟨pb, 5, none⟩ = some (.string co) := HBK.out.cell 5
  have E6 : w2.cell? ⟨pb, 6, none⟩ = some (.int .i64 nu) := HBK.out.cell 6
  have E7 : w2.cell? ⟨pb, 7, none⟩ = some (.string tx) := HBK.out.cell 7
  clear hpb hw2
  have HF : Hid (codeB 8 (ls co) = nameB (ls co)) := Lib.hid rfl
  have HW := Lib.hid (r8_Word co w2 hc)
  go_enter Tryz.func59, Tryz.ntmps59
  go_upto_region 1 with fail
  rw [HE.out.1, HE.out.2]
  go_wp2_with fail
  refine HW.out.mono ?_
  rintro e w3 ⟨rfl, rfl⟩
  go_wp2
  go_ret
  exact ⟨ret_b HF.out.symm, HB2.out⟩
set_option maxHeartbeats 1000000 in
theorem r8_code9 (id pe fr tt : Int) (co : ByteArray) (nu : Int) (tx : ByteArray) (w : World) (hc : co.size ≤ 1000000) : Calls Tryz.prog 59 #[.agg #[.int .u32 id, .int .u32 pe, .int .i64 9, .int .i64 fr, .int .i64 tt, .string co, .int .i64 nu, .string tx]] w fun e w' => e = .returned (.bool (codeB 9 (ls co))) ∧ Below w.heap.size w w' := by
  obtain ⟨pb, hpb⟩ : ∃ x, w.heap.size = x := ⟨_, rfl⟩
  obtain ⟨w2, hw2⟩ : ∃ x, w.alloc (.cells #[.int .u32 id, .int .u32 pe, .int .i64 9, .int .i64 fr, .int .i64 tt, .string co, .int .i64 nu, .string tx] 37) = x := ⟨_, rfl⟩
  have HB2 : Hid (Below w.heap.size w w2) := Lib.hid (by rw [← hw2]; exact bAlloc _ _)
  have HBK : Hid (Bk pb 37 #[.int .u32 id, .int .u32 pe, .int .i64 9, .int .i64 fr, .int .i64 tt, .string co, .int .i64 nu, .string tx] w2) := Lib.hid (by rw [← hw2, ← hpb]; exact Bk.new _ _ _)
  have HE := Lib.hid (And.intro hpb hw2)
  have E2 : w2.cell? ⟨pb, 2, none⟩ = some (.int .i64 9) := HBK.out.cell 2
  have E5 : w2.cell? ⟨pb, 5, none⟩ = some (.string co) := HBK.out.cell 5
  have E6 : w2.cell? ⟨pb, 6, none⟩ = some (.int .i64 nu) := HBK.out.cell 6
  have E7 : w2.cell? ⟨pb, 7, none⟩ = some (.string tx) := HBK.out.cell 7
  clear hpb hw2
  have HF : Hid (codeB 9 (ls co) = nameB (ls co)) := Lib.hid rfl
  have HW := Lib.hid (r8_Word co w2 hc)
  go_enter Tryz.func59, Tryz.ntmps59
  go_upto_region 1 with fail
  rw [HE.out.1, HE.out.2]
  go_wp2_with fail
  refine HW.out.mono ?_
  rintro e w3 ⟨rfl, rfl⟩
  go_wp2
  go_ret
  exact ⟨ret_b HF.out.symm, HB2.out⟩
set_option maxHeartbeats 1000000 in
theorem r8_code10 (id pe fr tt : Int) (co : ByteArray) (nu : Int) (tx : ByteArray) (w : World) (hc : co.size ≤ 1000000) : Calls Tryz.prog 59 #[.agg #[.int .u32 id, .int .u32 pe, .int .i64 10, .int .i64 fr, .int .i64 tt, .string co, .int .i64 nu, .string tx]] w fun e w' => e = .returned (.bool (codeB 10 (ls co))) ∧ Below w.heap.size w w' := by
  obtain ⟨pb, hpb⟩ : ∃ x, w.heap.size = x := ⟨_, rfl⟩
  obtain ⟨w2, hw2⟩ : ∃ x, w.alloc (.cells #[.int .u32 id, .int .u32 pe, .int .i64 10, .int .i64 fr, .int .i64 tt, .string co, .int .i64 nu, .string tx] 37) = x := ⟨_, rfl⟩
  have HB2 : Hid (Below w.heap.size w w2) := Lib.hid (by rw [← hw2]; exact bAlloc _ _)
  have HBK : Hid (Bk pb 37 #[.int .u32 id, .int .u32 pe, .int .i64 10, .int .i64 fr, .int .i64 tt, .string co, .int .i64 nu, .string tx] w2) := Lib.hid (by rw [← hw2, ← hpb]; exact Bk.new _ _ _)
  have HE := Lib.hid (And.intro hpb hw2)
  have E2 : w2.cell? ⟨pb, 2, none⟩ = some (.int .i64 10) := HBK.out.cell 2
  have E5 : w2.cell? ⟨pb, 5, none⟩ = some (.string co) := HBK.out.cell 5
  have E6 : w2.cell? ⟨pb, 6, none⟩ = some (.int .i64 nu) := HBK.out.cell 6
  have E7 : w2.cell? ⟨pb, 7, none⟩ = some (.string tx) := HBK.out.cell 7
  clear hpb hw2
  have HF : Hid (codeB 10 (ls co) = nameB (ls co)) := Lib.hid rfl
  have HW := Lib.hid (r8_Word co w2 hc)
  go_enter Tryz.func59, Tryz.ntmps59
  go_upto_region 1 with fail
  rw [HE.out.1, HE.out.2]
  go_wp2_with fail
  refine HW.out.mono ?_
  rintro e w3 ⟨rfl, rfl⟩
  go_wp2
  go_ret
  exact ⟨ret_b HF.out.symm, HB2.out⟩
set_option maxHeartbeats 1000000 in
theorem r8_code11 (id pe fr tt : Int) (co : ByteArray) (nu : Int) (tx : ByteArray) (w : World) : Calls Tryz.prog 59 #[.agg #[.int .u32 id, .int .u32 pe, .int .i64 11, .int .i64 fr, .int .i64 tt, .string co, .int .i64 nu, .string tx]] w fun e w' => e = .returned (.bool (codeB 11 (ls co))) ∧ Below w.heap.size w w' := by
  obtain ⟨pb, hpb⟩ : ∃ x, w.heap.size = x := ⟨_, rfl⟩
  obtain ⟨w2, hw2⟩ : ∃ x, w.alloc (.cells #[.int .u32 id, .int .u32 pe, .int .i64 11, .int .i64 fr, .int .i64 tt, .string co, .int .i64 nu, .string tx] 37) = x := ⟨_, rfl⟩
  have HB2 : Hid (Below w.heap.size w w2) := Lib.hid (by rw [← hw2]; exact bAlloc _ _)
  have HBK : Hid (Bk pb 37 #[.int .u32 id, .int .u32 pe, .int .i64 11, .int .i64 fr, .int .i64 tt, .string co, .int .i64 nu, .string tx] w2) := Lib.hid (by rw [← hw2, ← hpb]; exact Bk.new _ _ _)
  have HE := Lib.hid (And.intro hpb hw2)
  have E2 : w2.cell? ⟨pb, 2, none⟩ = some (.int .i64 11) := HBK.out.cell 2
  have E5 : w2.cell? ⟨pb, 5, none⟩ = some (.string co) := HBK.out.cell 5
  have E6 : w2.cell? ⟨pb, 6, none⟩ = some (.int .i64 nu) := HBK.out.cell 6
  have E7 : w2.cell? ⟨pb, 7, none⟩ = some (.string tx) := HBK.out.cell 7
  clear hpb hw2
  have HF : Hid (codeB 11 (ls co) = (ls co == [])) := Lib.hid rfl
  have HI := Lib.hid (isEmpty_ls co)
  obtain ⟨v, hv⟩ : ∃ v, co.toList.isEmpty = v := ⟨_, rfl⟩
  rw [hv] at HI
  go_enter Tryz.func59, Tryz.ntmps59
  go_upto_region 1 with fail
  rw [HE.out.1, HE.out.2]
  go_wp2
  go_ret
  exact ⟨ret_b (by rw [HF.out, ← HI.out]), HB2.out⟩
set_option maxHeartbeats 1000000 in
theorem r8_code12 (id pe fr tt : Int) (co : ByteArray) (nu : Int) (tx : ByteArray) (w : World) (hc : co.size ≤ 1000000) : Calls Tryz.prog 59 #[.agg #[.int .u32 id, .int .u32 pe, .int .i64 12, .int .i64 fr, .int .i64 tt, .string co, .int .i64 nu, .string tx]] w fun e w' => e = .returned (.bool (codeB 12 (ls co))) ∧ Below w.heap.size w w' := by
  obtain ⟨pb, hpb⟩ : ∃ x, w.heap.size = x := ⟨_, rfl⟩
  obtain ⟨w2, hw2⟩ : ∃ x, w.alloc (.cells #[.int .u32 id, .int .u32 pe, .int .i64 12, .int .i64 fr, .int .i64 tt, .string co, .int .i64 nu, .string tx] 37) = x := ⟨_, rfl⟩
  have HB2 : Hid (Below w.heap.size w w2) := Lib.hid (by rw [← hw2]; exact bAlloc _ _)
  have HBK : Hid (Bk pb 37 #[.int .u32 id, .int .u32 pe, .int .i64 12, .int .i64 fr, .int .i64 tt, .string co, .int .i64 nu, .string tx] w2) := Lib.hid (by rw [← hw2, ← hpb]; exact Bk.new _ _ _)
  have HE := Lib.hid (And.intro hpb hw2)
  have E2 : w2.cell? ⟨pb, 2, none⟩ = some (.int .i64 12) := HBK.out.cell 2
  have E5 : w2.cell? ⟨pb, 5, none⟩ = some (.string co) := HBK.out.cell 5
  have E6 : w2.cell? ⟨pb, 6, none⟩ = some (.int .i64 nu) := HBK.out.cell 6
  have E7 : w2.cell? ⟨pb, 7, none⟩ = some (.string tx) := HBK.out.cell 7
  clear hpb hw2
  have HF : Hid (codeB 12 (ls co) = nameB (ls co)) := Lib.hid rfl
  have HW := Lib.hid (r8_Word co w2 hc)
  go_enter Tryz.func59, Tryz.ntmps59
  go_upto_region 1 with fail
  rw [HE.out.1, HE.out.2]
  go_wp2_with fail
  refine HW.out.mono ?_
  rintro e w3 ⟨rfl, rfl⟩
  go_wp2
  go_ret
  exact ⟨ret_b HF.out.symm, HB2.out⟩
set_option maxHeartbeats 1000000 in
theorem r8_code13 (id pe fr tt : Int) (co : ByteArray) (nu : Int) (tx : ByteArray) (w : World) : Calls Tryz.prog 59 #[.agg #[.int .u32 id, .int .u32 pe, .int .i64 13, .int .i64 fr, .int .i64 tt, .string co, .int .i64 nu, .string tx]] w fun e w' => e = .returned (.bool (codeB 13 (ls co))) ∧ Below w.heap.size w w' := by
  obtain ⟨pb, hpb⟩ : ∃ x, w.heap.size = x := ⟨_, rfl⟩
  obtain ⟨w2, hw2⟩ : ∃ x, w.alloc (.cells #[.int .u32 id, .int .u32 pe, .int .i64 13, .int .i64 fr, .int .i64 tt, .string co, .int .i64 nu, .string tx] 37) = x := ⟨_, rfl⟩
  have HB2 : Hid (Below w.heap.size w w2) := Lib.hid (by rw [← hw2]; exact bAlloc _ _)
  have HBK : Hid (Bk pb 37 #[.int .u32 id, .int .u32 pe, .int .i64 13, .int .i64 fr, .int .i64 tt, .string co, .int .i64 nu, .string tx] w2) := Lib.hid (by rw [← hw2, ← hpb]; exact Bk.new _ _ _)
  have HE := Lib.hid (And.intro hpb hw2)
  have E2 : w2.cell? ⟨pb, 2, none⟩ = some (.int .i64 13) := HBK.out.cell 2
  have E5 : w2.cell? ⟨pb, 5, none⟩ = some (.string co) := HBK.out.cell 5
  have E6 : w2.cell? ⟨pb, 6, none⟩ = some (.int .i64 nu) := HBK.out.cell 6
  have E7 : w2.cell? ⟨pb, 7, none⟩ = some (.string tx) := HBK.out.cell 7
  clear hpb hw2
  have HF : Hid (codeB 13 (ls co) = (ls co == [])) := Lib.hid rfl
  have HI := Lib.hid (isEmpty_ls co)
  obtain ⟨v, hv⟩ : ∃ v, co.toList.isEmpty = v := ⟨_, rfl⟩
  rw [hv] at HI
  go_enter Tryz.func59, Tryz.ntmps59
  go_upto_region 1 with fail
  rw [HE.out.1, HE.out.2]
  go_wp2
  go_ret
  exact ⟨ret_b (by rw [HF.out, ← HI.out]), HB2.out⟩
set_option maxHeartbeats 1000000 in
theorem r8_code14 (id pe fr tt : Int) (co : ByteArray) (nu : Int) (tx : ByteArray) (w : World) (hc : co.size ≤ 1000000) : Calls Tryz.prog 59 #[.agg #[.int .u32 id, .int .u32 pe, .int .i64 14, .int .i64 fr, .int .i64 tt, .string co, .int .i64 nu, .string tx]] w fun e w' => e = .returned (.bool (codeB 14 (ls co))) ∧ Below w.heap.size w w' := by
  obtain ⟨pb, hpb⟩ : ∃ x, w.heap.size = x := ⟨_, rfl⟩
  obtain ⟨w2, hw2⟩ : ∃ x, w.alloc (.cells #[.int .u32 id, .int .u32 pe, .int .i64 14, .int .i64 fr, .int .i64 tt, .string co, .int .i64 nu, .string tx] 37) = x := ⟨_, rfl⟩
  have HB2 : Hid (Below w.heap.size w w2) := Lib.hid (by rw [← hw2]; exact bAlloc _ _)
  have HBK : Hid (Bk pb 37 #[.int .u32 id, .int .u32 pe, .int .i64 14, .int .i64 fr, .int .i64 tt, .string co, .int .i64 nu, .string tx] w2) := Lib.hid (by rw [← hw2, ← hpb]; exact Bk.new _ _ _)
  have HE := Lib.hid (And.intro hpb hw2)
  have E2 : w2.cell? ⟨pb, 2, none⟩ = some (.int .i64 14) := HBK.out.cell 2
  have E5 : w2.cell? ⟨pb, 5, none⟩ = some (.string co) := HBK.out.cell 5
  have E6 : w2.cell? ⟨pb, 6, none⟩ = some (.int .i64 nu) := HBK.out.cell 6
  have E7 : w2.cell? ⟨pb, 7, none⟩ = some (.string tx) := HBK.out.cell 7
  clear hpb hw2
  have HF : Hid (codeB 14 (ls co) = nameB (ls co)) := Lib.hid rfl
  have HW := Lib.hid (r8_Word co w2 hc)
  go_enter Tryz.func59, Tryz.ntmps59
  go_upto_region 1 with fail
  rw [HE.out.1, HE.out.2]
  go_wp2_with fail
  refine HW.out.mono ?_
  rintro e w3 ⟨rfl, rfl⟩
  go_wp2
  go_ret
  exact ⟨ret_b HF.out.symm, HB2.out⟩
set_option maxHeartbeats 1000000 in
theorem r8_code15 (id pe fr tt : Int) (co : ByteArray) (nu : Int) (tx : ByteArray) (w : World) (hc : co.size ≤ 1000000) : Calls Tryz.prog 59 #[.agg #[.int .u32 id, .int .u32 pe, .int .i64 15, .int .i64 fr, .int .i64 tt, .string co, .int .i64 nu, .string tx]] w fun e w' => e = .returned (.bool (codeB 15 (ls co))) ∧ Below w.heap.size w w' := by
  obtain ⟨pb, hpb⟩ : ∃ x, w.heap.size = x := ⟨_, rfl⟩
  obtain ⟨w2, hw2⟩ : ∃ x, w.alloc (.cells #[.int .u32 id, .int .u32 pe, .int .i64 15, .int .i64 fr, .int .i64 tt, .string co, .int .i64 nu, .string tx] 37) = x := ⟨_, rfl⟩
  have HB2 : Hid (Below w.heap.size w w2) := Lib.hid (by rw [← hw2]; exact bAlloc _ _)
  have HBK : Hid (Bk pb 37 #[.int .u32 id, .int .u32 pe, .int .i64 15, .int .i64 fr, .int .i64 tt, .string co, .int .i64 nu, .string tx] w2) := Lib.hid (by rw [← hw2, ← hpb]; exact Bk.new _ _ _)
  have HE := Lib.hid (And.intro hpb hw2)
  have E2 : w2.cell? ⟨pb, 2, none⟩ = some (.int .i64 15) := HBK.out.cell 2
  have E5 : w2.cell? ⟨pb, 5, none⟩ = some (.string co) := HBK.out.cell 5
  have E6 : w2.cell? ⟨pb, 6, none⟩ = some (.int .i64 nu) := HBK.out.cell 6
  have E7 : w2.cell? ⟨pb, 7, none⟩ = some (.string tx) := HBK.out.cell 7
  clear hpb hw2
  have HF : Hid (codeB 15 (ls co) = nameB (ls co)) := Lib.hid rfl
  have HW := Lib.hid (r8_Word co w2 hc)
  go_enter Tryz.func59, Tryz.ntmps59
  go_upto_region 1 with fail
  rw [HE.out.1, HE.out.2]
  go_wp2_with fail
  refine HW.out.mono ?_
  rintro e w3 ⟨rfl, rfl⟩
  go_wp2
  go_ret
  exact ⟨ret_b HF.out.symm, HB2.out⟩
set_option maxHeartbeats 1000000 in
theorem r8_code16 (id pe fr tt : Int) (co : ByteArray) (nu : Int) (tx : ByteArray) (w : World) : Calls Tryz.prog 59 #[.agg #[.int .u32 id, .int .u32 pe, .int .i64 16, .int .i64 fr, .int .i64 tt, .string co, .int .i64 nu, .string tx]] w fun e w' => e = .returned (.bool (codeB 16 (ls co))) ∧ Below w.heap.size w w' := by
  obtain ⟨pb, hpb⟩ : ∃ x, w.heap.size = x := ⟨_, rfl⟩
  obtain ⟨w2, hw2⟩ : ∃ x, w.alloc (.cells #[.int .u32 id, .int .u32 pe, .int .i64 16, .int .i64 fr, .int .i64 tt, .string co, .int .i64 nu, .string tx] 37) = x := ⟨_, rfl⟩
  have HB2 : Hid (Below w.heap.size w w2) := Lib.hid (by rw [← hw2]; exact bAlloc _ _)
  have HBK : Hid (Bk pb 37 #[.int .u32 id, .int .u32 pe, .int .i64 16, .int .i64 fr, .int .i64 tt, .string co, .int .i64 nu, .string tx] w2) := Lib.hid (by rw [← hw2, ← hpb]; exact Bk.new _ _ _)
  have HE := Lib.hid (And.intro hpb hw2)
  have E2 : w2.cell? ⟨pb, 2, none⟩ = some (.int .i64 16) := HBK.out.cell 2
  have E5 : w2.cell? ⟨pb, 5, none⟩ = some (.string co) := HBK.out.cell 5
  have E6 : w2.cell? ⟨pb, 6, none⟩ = some (.int .i64 nu) := HBK.out.cell 6
  have E7 : w2.cell? ⟨pb, 7, none⟩ = some (.string tx) := HBK.out.cell 7
  clear hpb hw2
  have HF : Hid (codeB 16 (ls co) = (ls co == [])) := Lib.hid rfl
  have HI := Lib.hid (isEmpty_ls co)
  obtain ⟨v, hv⟩ : ∃ v, co.toList.isEmpty = v := ⟨_, rfl⟩
  rw [hv] at HI
  go_enter Tryz.func59, Tryz.ntmps59
  go_upto_region 1 with fail
  rw [HE.out.1, HE.out.2]
  go_wp2
  go_ret
  exact ⟨ret_b (by rw [HF.out, ← HI.out]), HB2.out⟩
set_option maxHeartbeats 1000000 in
theorem r8_code17 (id pe fr tt : Int) (co : ByteArray) (nu : Int) (tx : ByteArray) (w : World) : Calls Tryz.prog 59 #[.agg #[.int .u32 id, .int .u32 pe, .int .i64 17, .int .i64 fr, .int .i64 tt, .string co, .int .i64 nu, .string tx]] w fun e w' => e = .returned (.bool (codeB 17 (ls co))) ∧ Below w.heap.size w w' := by
  obtain ⟨pb, hpb⟩ : ∃ x, w.heap.size = x := ⟨_, rfl⟩
  obtain ⟨w2, hw2⟩ : ∃ x, w.alloc (.cells #[.int .u32 id, .int .u32 pe, .int .i64 17, .int .i64 fr, .int .i64 tt, .string co, .int .i64 nu, .string tx] 37) = x := ⟨_, rfl⟩
  have HB2 : Hid (Below w.heap.size w w2) := Lib.hid (by rw [← hw2]; exact bAlloc _ _)
  have HBK : Hid (Bk pb 37 #[.int .u32 id, .int .u32 pe, .int .i64 17, .int .i64 fr, .int .i64 tt, .string co, .int .i64 nu, .string tx] w2) := Lib.hid (by rw [← hw2, ← hpb]; exact Bk.new _ _ _)
  have HE := Lib.hid (And.intro hpb hw2)
  have E2 : w2.cell? ⟨pb, 2, none⟩ = some (.int .i64 17) := HBK.out.cell 2
  have E5 : w2.cell? ⟨pb, 5, none⟩ = some (.string co) := HBK.out.cell 5
  have E6 : w2.cell? ⟨pb, 6, none⟩ = some (.int .i64 nu) := HBK.out.cell 6
  have E7 : w2.cell? ⟨pb, 7, none⟩ = some (.string tx) := HBK.out.cell 7
  clear hpb hw2
  have HF : Hid (codeB 17 (ls co) = (ls co == [])) := Lib.hid rfl
  have HI := Lib.hid (isEmpty_ls co)
  obtain ⟨v, hv⟩ : ∃ v, co.toList.isEmpty = v := ⟨_, rfl⟩
  rw [hv] at HI
  go_enter Tryz.func59, Tryz.ntmps59
  go_upto_region 1 with fail
  rw [HE.out.1, HE.out.2]
  go_wp2
  go_ret
  exact ⟨ret_b (by rw [HF.out, ← HI.out]), HB2.out⟩
set_option maxHeartbeats 1000000 in
theorem r8_code18 (id pe fr tt : Int) (co : ByteArray) (nu : Int) (tx : ByteArray) (w : World) : Calls Tryz.prog 59 #[.agg #[.int .u32 id, .int .u32 pe, .int .i64 18, .int .i64 fr, .int .i64 tt, .string co, .int .i64 nu, .string tx]] w fun e w' => e = .returned (.bool (codeB 18 (ls co))) ∧ Below w.heap.size w w' := by
  obtain ⟨pb, hpb⟩ : ∃ x, w.heap.size = x := ⟨_, rfl⟩
  obtain ⟨w2, hw2⟩ : ∃ x, w.alloc (.cells #[.int .u32 id, .int .u32 pe, .int .i64 18, .int .i64 fr, .int .i64 tt, .string co, .int .i64 nu, .string tx] 37) = x := ⟨_, rfl⟩
  have HB2 : Hid (Below w.heap.size w w2) := Lib.hid (by rw [← hw2]; exact bAlloc _ _)
  have HBK : Hid (Bk pb 37 #[.int .u32 id, .int .u32 pe, .int .i64 18, .int .i64 fr, .int .i64 tt, .string co, .int .i64 nu, .string tx] w2) := Lib.hid (by rw [← hw2, ← hpb]; exact Bk.new _ _ _)
  have HE := Lib.hid (And.intro hpb hw2)
  have E2 : w2.cell? ⟨pb, 2, none⟩ = some (.int .i64 18) := HBK.out.cell 2
  have E5 : w2.cell? ⟨pb, 5, none⟩ = some (.string co) := HBK.out.cell 5
  have E6 : w2.cell? ⟨pb, 6, none⟩ = some (.int .i64 nu) := HBK.out.cell 6
  have E7 : w2.cell? ⟨pb, 7, none⟩ = some (.string tx) := HBK.out.cell 7
  clear hpb hw2
  have HF : Hid (codeB 18 (ls co) = (ls co == [])) := Lib.hid rfl
  have HI := Lib.hid (isEmpty_ls co)
  obtain ⟨v, hv⟩ : ∃ v, co.toList.isEmpty = v := ⟨_, rfl⟩
  rw [hv] at HI
  go_enter Tryz.func59, Tryz.ntmps59
  go_upto_region 1 with fail
  rw [HE.out.1, HE.out.2]
  go_wp2
  go_ret
  exact ⟨ret_b (by rw [HF.out, ← HI.out]), HB2.out⟩
set_option maxHeartbeats 1000000 in
theorem r8_text1 (id pe fr tt : Int) (co : ByteArray) (nu : Int) (tx : ByteArray) (w : World) : Calls Tryz.prog 61 #[.agg #[.int .u32 id, .int .u32 pe, .int .i64 1, .int .i64 fr, .int .i64 tt, .string co, .int .i64 nu, .string tx]] w fun e w' => e = .returned (.bool (textB 1 nu (ls tx))) ∧ Below w.heap.size w w' := by
  obtain ⟨pb, hpb⟩ : ∃ x, w.heap.size = x := ⟨_, rfl⟩
  obtain ⟨w2, hw2⟩ : ∃ x, w.alloc (.cells #[.int .u32 id, .int .u32 pe, .int .i64 1, .int .i64 fr, .int .i64 tt, .string co, .int .i64 nu, .string tx] 37) = x := ⟨_, rfl⟩
  have HB2 : Hid (Below w.heap.size w w2) := Lib.hid (by rw [← hw2]; exact bAlloc _ _)
  have HBK : Hid (Bk pb 37 #[.int .u32 id, .int .u32 pe, .int .i64 1, .int .i64 fr, .int .i64 tt, .string co, .int .i64 nu, .string tx] w2) := Lib.hid (by rw [← hw2, ← hpb]; exact Bk.new _ _ _)
  have HE := Lib.hid (And.intro hpb hw2)
  have E2 : w2.cell? ⟨pb, 2, none⟩ = some (.int .i64 1) := HBK.out.cell 2
  have E5 : w2.cell? ⟨pb, 5, none⟩ = some (.string co) := HBK.out.cell 5
  have E6 : w2.cell? ⟨pb, 6, none⟩ = some (.int .i64 nu) := HBK.out.cell 6
  have E7 : w2.cell? ⟨pb, 7, none⟩ = some (.string tx) := HBK.out.cell 7
  clear hpb hw2
  have HF : Hid (textB 1 nu (ls tx) = (ls tx == [])) := Lib.hid rfl
  have HI := Lib.hid (isEmpty_ls tx)
  obtain ⟨v, hv⟩ : ∃ v, tx.toList.isEmpty = v := ⟨_, rfl⟩
  rw [hv] at HI
  go_enter Tryz.func61, Tryz.ntmps61
  go_upto_region 1 with fail
  rw [HE.out.1, HE.out.2]
  go_wp2
  go_ret
  exact ⟨ret_b (by rw [HF.out, ← HI.out]), HB2.out⟩
set_option maxHeartbeats 1000000 in
theorem r8_text2 (id pe fr tt : Int) (co : ByteArray) (nu : Int) (tx : ByteArray) (w : World) : Calls Tryz.prog 61 #[.agg #[.int .u32 id, .int .u32 pe, .int .i64 2, .int .i64 fr, .int .i64 tt, .string co, .int .i64 nu, .string tx]] w fun e w' => e = .returned (.bool (textB 2 nu (ls tx))) ∧ Below w.heap.size w w' := by
  obtain ⟨pb, hpb⟩ : ∃ x, w.heap.size = x := ⟨_, rfl⟩
  obtain ⟨w2, hw2⟩ : ∃ x, w.alloc (.cells #[.int .u32 id, .int .u32 pe, .int .i64 2, .int .i64 fr, .int .i64 tt, .string co, .int .i64 nu, .string tx] 37) = x := ⟨_, rfl⟩
  have HB2 : Hid (Below w.heap.size w w2) := Lib.hid (by rw [← hw2]; exact bAlloc _ _)
  have HBK : Hid (Bk pb 37 #[.int .u32 id, .int .u32 pe, .int .i64 2, .int .i64 fr, .int .i64 tt, .string co, .int .i64 nu, .string tx] w2) := Lib.hid (by rw [← hw2, ← hpb]; exact Bk.new _ _ _)
  have HE := Lib.hid (And.intro hpb hw2)
  have E2 : w2.cell? ⟨pb, 2, none⟩ = some (.int .i64 2) := HBK.out.cell 2
  have E5 : w2.cell? ⟨pb, 5, none⟩ = some (.string co) := HBK.out.cell 5
  have E6 : w2.cell? ⟨pb, 6, none⟩ = some (.int .i64 nu) := HBK.out.cell 6
  have E7 : w2.cell? ⟨pb, 7, none⟩ = some (.string tx) := HBK.out.cell 7
  clear hpb hw2
  have HF : Hid (textB 2 nu (ls tx) = (ls tx == [])) := Lib.hid rfl
  have HI := Lib.hid (isEmpty_ls tx)
  obtain ⟨v, hv⟩ : ∃ v, tx.toList.isEmpty = v := ⟨_, rfl⟩
  rw [hv] at HI
  go_enter Tryz.func61, Tryz.ntmps61
  go_upto_region 1 with fail
  rw [HE.out.1, HE.out.2]
  go_wp2
  go_ret
  exact ⟨ret_b (by rw [HF.out, ← HI.out]), HB2.out⟩
set_option maxHeartbeats 1000000 in
theorem r8_text3 (id pe fr tt : Int) (co : ByteArray) (nu : Int) (tx : ByteArray) (w : World) : Calls Tryz.prog 61 #[.agg #[.int .u32 id, .int .u32 pe, .int .i64 3, .int .i64 fr, .int .i64 tt, .string co, .int .i64 nu, .string tx]] w fun e w' => e = .returned (.bool (textB 3 nu (ls tx))) ∧ Below w.heap.size w w' := by
  obtain ⟨pb, hpb⟩ : ∃ x, w.heap.size = x := ⟨_, rfl⟩
  obtain ⟨w2, hw2⟩ : ∃ x, w.alloc (.cells #[.int .u32 id, .int .u32 pe, .int .i64 3, .int .i64 fr, .int .i64 tt, .string co, .int .i64 nu, .string tx] 37) = x := ⟨_, rfl⟩
  have HB2 : Hid (Below w.heap.size w w2) := Lib.hid (by rw [← hw2]; exact bAlloc _ _)
  have HBK : Hid (Bk pb 37 #[.int .u32 id, .int .u32 pe, .int .i64 3, .int .i64 fr, .int .i64 tt, .string co, .int .i64 nu, .string tx] w2) := Lib.hid (by rw [← hw2, ← hpb]; exact Bk.new _ _ _)
  have HE := Lib.hid (And.intro hpb hw2)
  have E2 : w2.cell? ⟨pb, 2, none⟩ = some (.int .i64 3) := HBK.out.cell 2
  have E5 : w2.cell? ⟨pb, 5, none⟩ = some (.string co) := HBK.out.cell 5
  have E6 : w2.cell? ⟨pb, 6, none⟩ = some (.int .i64 nu) := HBK.out.cell 6
  have E7 : w2.cell? ⟨pb, 7, none⟩ = some (.string tx) := HBK.out.cell 7
  clear hpb hw2
  have HF : Hid (textB 3 nu (ls tx) = (ls tx == [])) := Lib.hid rfl
  have HI := Lib.hid (isEmpty_ls tx)
  obtain ⟨v, hv⟩ : ∃ v, tx.toList.isEmpty = v := ⟨_, rfl⟩
  rw [hv] at HI
  go_enter Tryz.func61, Tryz.ntmps61
  go_upto_region 1 with fail
  rw [HE.out.1, HE.out.2]
  go_wp2
  go_ret
  exact ⟨ret_b (by rw [HF.out, ← HI.out]), HB2.out⟩
set_option maxHeartbeats 1000000 in
theorem r8_text4 (id pe fr tt : Int) (co : ByteArray) (nu : Int) (tx : ByteArray) (w : World) (ht : tx.size ≤ 1000000) : Calls Tryz.prog 61 #[.agg #[.int .u32 id, .int .u32 pe, .int .i64 4, .int .i64 fr, .int .i64 tt, .string co, .int .i64 nu, .string tx]] w fun e w' => e = .returned (.bool (textB 4 nu (ls tx))) ∧ Below w.heap.size w w' := by
  obtain ⟨pb, hpb⟩ : ∃ x, w.heap.size = x := ⟨_, rfl⟩
  obtain ⟨w2, hw2⟩ : ∃ x, w.alloc (.cells #[.int .u32 id, .int .u32 pe, .int .i64 4, .int .i64 fr, .int .i64 tt, .string co, .int .i64 nu, .string tx] 37) = x := ⟨_, rfl⟩
  have HB2 : Hid (Below w.heap.size w w2) := Lib.hid (by rw [← hw2]; exact bAlloc _ _)
  have HBK : Hid (Bk pb 37 #[.int .u32 id, .int .u32 pe, .int .i64 4, .int .i64 fr, .int .i64 tt, .string co, .int .i64 nu, .string tx] w2) := Lib.hid (by rw [← hw2, ← hpb]; exact Bk.new _ _ _)
  have HE := Lib.hid (And.intro hpb hw2)
  have E2 : w2.cell? ⟨pb, 2, none⟩ = some (.int .i64 4) := HBK.out.cell 2
  have E5 : w2.cell? ⟨pb, 5, none⟩ = some (.string co) := HBK.out.cell 5
  have E6 : w2.cell? ⟨pb, 6, none⟩ = some (.int .i64 nu) := HBK.out.cell 6
  have E7 : w2.cell? ⟨pb, 7, none⟩ = some (.string tx) := HBK.out.cell 7
  clear hpb hw2
  have HF : Hid (textB 4 nu (ls tx) = decide (weekE (ls tx) = 0)) := Lib.hid rfl
  have HW := Lib.hid (r7_Parse tx w2 ht)
  obtain ⟨wv, hwv⟩ : ∃ v, weekE (ls tx) = v := ⟨_, rfl⟩
  unfold wkR7 at HW
  rw [hwv] at HW HF
  clear hwv
  go_enter Tryz.func61, Tryz.ntmps61
  go_upto_region 1 with fail
  rw [HE.out.1, HE.out.2]
  go_wp2_with fail
  refine HW.out.mono ?_
  rintro e w3 ⟨⟨x0, x1, x2, x3, x4, x5, x6, rfl⟩, hb3⟩
  have HB3 : Hid (∀ o, Below w.heap.size w (w3.alloc o)) := Lib.hid fun o => bTrans HB2.out (bTrans hb3 (bAlloc _ _))
  clear hb3 E2 E5 E6 E7
  by_cases h0 : wv = 0
  · have d1 : ((wv : Int) == 0) = true := by simp [h0]
    have HG : Hid (textB 4 nu (ls tx) = true) := Lib.hid (by rw [HF.out]; exact decide_eq_true h0)
    clear h0
    go_wp2
    go_ret
    exact ⟨ret_b HG.out.symm, HB3.out _⟩
  · have d1 : ((wv : Int) == 0) = false := by simp [h0]
    have HG : Hid (textB 4 nu (ls tx) = false) := Lib.hid (by rw [HF.out]; exact decide_eq_false h0)
    clear h0
    go_wp2
    go_ret
    exact ⟨ret_b HG.out.symm, HB3.out _⟩
set_option maxHeartbeats 1000000 in
theorem r8_text5 (id pe fr tt : Int) (co : ByteArray) (nu : Int) (tx : ByteArray) (w : World) (ht : tx.size ≤ 1000000) : Calls Tryz.prog 61 #[.agg #[.int .u32 id, .int .u32 pe, .int .i64 5, .int .i64 fr, .int .i64 tt, .string co, .int .i64 nu, .string tx]] w fun e w' => e = .returned (.bool (textB 5 nu (ls tx))) ∧ Below w.heap.size w w' := by
  obtain ⟨pb, hpb⟩ : ∃ x, w.heap.size = x := ⟨_, rfl⟩
  obtain ⟨w2, hw2⟩ : ∃ x, w.alloc (.cells #[.int .u32 id, .int .u32 pe, .int .i64 5, .int .i64 fr, .int .i64 tt, .string co, .int .i64 nu, .string tx] 37) = x := ⟨_, rfl⟩
  have HB2 : Hid (Below w.heap.size w w2) := Lib.hid (by rw [← hw2]; exact bAlloc _ _)
  have HBK : Hid (Bk pb 37 #[.int .u32 id, .int .u32 pe, .int .i64 5, .int .i64 fr, .int .i64 tt, .string co, .int .i64 nu, .string tx] w2) := Lib.hid (by rw [← hw2, ← hpb]; exact Bk.new _ _ _)
  have HE := Lib.hid (And.intro hpb hw2)
  have E2 : w2.cell? ⟨pb, 2, none⟩ = some (.int .i64 5) := HBK.out.cell 2
  have E5 : w2.cell? ⟨pb, 5, none⟩ = some (.string co) := HBK.out.cell 5
  have E6 : w2.cell? ⟨pb, 6, none⟩ = some (.int .i64 nu) := HBK.out.cell 6
  have E7 : w2.cell? ⟨pb, 7, none⟩ = some (.string tx) := HBK.out.cell 7
  clear hpb hw2
  have HF : Hid (textB 5 nu (ls tx) = weightsB (ls tx)) := Lib.hid rfl
  have HW := Lib.hid (r8_weights tx w2 ht)
  go_enter Tryz.func61, Tryz.ntmps61
  go_upto_region 1 with fail
  rw [HE.out.1, HE.out.2]
  go_wp2_with fail
  refine HW.out.mono ?_
  rintro e w3 ⟨rfl, hb3⟩
  have HB3 := Lib.hid (bTrans HB2.out hb3)
  clear hb3 E2 E5 E6 E7
  go_wp2
  go_ret
  exact ⟨ret_b HF.out.symm, HB3.out⟩
set_option maxHeartbeats 1000000 in
theorem r8_text6 (id pe fr tt : Int) (co : ByteArray) (nu : Int) (tx : ByteArray) (w : World) (ht : tx.size ≤ 1000000) (hn : 0 ≤ nu ∧ nu ≤ 1440) : Calls Tryz.prog 61 #[.agg #[.int .u32 id, .int .u32 pe, .int .i64 6, .int .i64 fr, .int .i64 tt, .string co, .int .i64 nu, .string tx]] w fun e w' => e = .returned (.bool (textB 6 nu (ls tx))) ∧ Below w.heap.size w w' := by
  obtain ⟨pb, hpb⟩ : ∃ x, w.heap.size = x := ⟨_, rfl⟩
  obtain ⟨w2, hw2⟩ : ∃ x, w.alloc (.cells #[.int .u32 id, .int .u32 pe, .int .i64 6, .int .i64 fr, .int .i64 tt, .string co, .int .i64 nu, .string tx] 37) = x := ⟨_, rfl⟩
  have HB2 : Hid (Below w.heap.size w w2) := Lib.hid (by rw [← hw2]; exact bAlloc _ _)
  have HBK : Hid (Bk pb 37 #[.int .u32 id, .int .u32 pe, .int .i64 6, .int .i64 fr, .int .i64 tt, .string co, .int .i64 nu, .string tx] w2) := Lib.hid (by rw [← hw2, ← hpb]; exact Bk.new _ _ _)
  have HE := Lib.hid (And.intro hpb hw2)
  have E2 : w2.cell? ⟨pb, 2, none⟩ = some (.int .i64 6) := HBK.out.cell 2
  have E5 : w2.cell? ⟨pb, 5, none⟩ = some (.string co) := HBK.out.cell 5
  have E6 : w2.cell? ⟨pb, 6, none⟩ = some (.int .i64 nu) := HBK.out.cell 6
  have E7 : w2.cell? ⟨pb, 7, none⟩ = some (.string tx) := HBK.out.cell 7
  clear hpb hw2
  have HF : Hid (textB 6 nu (ls tx) = ((ls tx == []) || (tensO (ls tx) nu.toNat).isSome)) := Lib.hid rfl
  have HI := Lib.hid (isEmpty_ls tx)
  obtain ⟨v, hv⟩ : ∃ v, tx.toList.isEmpty = v := ⟨_, rfl⟩
  rw [hv] at HI
  obtain ⟨m, hm⟩ : ∃ m : Nat, nu = (m : Int) := ⟨nu.toNat, by omega⟩
  subst hm
  have hm2 : m ≤ 1440 := by omega
  have u1 : IntKind.u64.wrap (m : Int) = (m : Int) := by rw [IntKind.wrap_u64]; omega
  have HW := Lib.hid (r8_Tens tx m w2 (by omega) ht)
  obtain ⟨ok, hok⟩ : ∃ v, (tensO (ls tx) m).isSome = v := ⟨_, rfl⟩
  unfold TensIs at HW
  rw [hok] at HW
  have HOK := Lib.hid hok
  clear hok hn
  go_enter Tryz.func61, Tryz.ntmps61
  go_upto_region 1 with fail
  rw [HE.out.1, HE.out.2]
  go_wp2_with fail
  refine HW.out.mono ?_
  rintro e w3 ⟨⟨n, rfl, _⟩, rfl⟩
  cases v with
  | true =>
    have HG : Hid (textB 6 (m : Int) (ls tx) = true) := Lib.hid (by rw [HF.out, ← HI.out]; rfl)
    go_wp2
    go_ret
    exact ⟨ret_b HG.out.symm, HB2.out⟩
  | false =>
    have HG : Hid (textB 6 (m : Int) (ls tx) = ok) := Lib.hid (by rw [HF.out, ← HI.out, Bool.false_or]; exact HOK.out)
    go_wp2
    go_ret
    exact ⟨ret_b HG.out.symm, HB2.out⟩
set_option maxHeartbeats 1000000 in
theorem r8_text7 (id pe fr tt : Int) (co : ByteArray) (nu : Int) (tx : ByteArray) (w : World) : Calls Tryz.prog 61 #[.agg #[.int .u32 id, .int .u32 pe, .int .i64 7, .int .i64 fr, .int .i64 tt, .string co, .int .i64 nu, .string tx]] w fun e w' => e = .returned (.bool (textB 7 nu (ls tx))) ∧ Below w.heap.size w w' := by
  obtain ⟨pb, hpb⟩ : ∃ x, w.heap.size = x := ⟨_, rfl⟩
  obtain ⟨w2, hw2⟩ : ∃ x, w.alloc (.cells #[.int .u32 id, .int .u32 pe, .int .i64 7, .int .i64 fr, .int .i64 tt, .string co, .int .i64 nu, .string tx] 37) = x := ⟨_, rfl⟩
  have HB2 : Hid (Below w.heap.size w w2) := Lib.hid (by rw [← hw2]; exact bAlloc _ _)
  have HBK : Hid (Bk pb 37 #[.int .u32 id, .int .u32 pe, .int .i64 7, .int .i64 fr, .int .i64 tt, .string co, .int .i64 nu, .string tx] w2) := Lib.hid (by rw [← hw2, ← hpb]; exact Bk.new _ _ _)
  have HE := Lib.hid (And.intro hpb hw2)
  have E2 : w2.cell? ⟨pb, 2, none⟩ = some (.int .i64 7) := HBK.out.cell 2
  have E5 : w2.cell? ⟨pb, 5, none⟩ = some (.string co) := HBK.out.cell 5
  have E6 : w2.cell? ⟨pb, 6, none⟩ = some (.int .i64 nu) := HBK.out.cell 6
  have E7 : w2.cell? ⟨pb, 7, none⟩ = some (.string tx) := HBK.out.cell 7
  clear hpb hw2
  have HF : Hid (textB 7 nu (ls tx) = (ls tx == [])) := Lib.hid rfl
  have HI := Lib.hid (isEmpty_ls tx)
  obtain ⟨v, hv⟩ : ∃ v, tx.toList.isEmpty = v := ⟨_, rfl⟩
  rw [hv] at HI
  go_enter Tryz.func61, Tryz.ntmps61
  go_upto_region 1 with fail
  rw [HE.out.1, HE.out.2]
  go_wp2
  go_ret
  exact ⟨ret_b (by rw [HF.out, ← HI.out]), HB2.out⟩
set_option maxHeartbeats 1000000 in
theorem r8_text8 (id pe fr tt : Int) (co : ByteArray) (nu : Int) (tx : ByteArray) (w : World) : Calls Tryz.prog 61 #[.agg #[.int .u32 id, .int .u32 pe, .int .i64 8, .int .i64 fr, .int .i64 tt, .string co, .int .i64 nu, .string tx]] w fun e w' => e = .returned (.bool (textB 8 nu (ls tx))) ∧ Below w.heap.size w w' := by
  obtain ⟨pb, hpb⟩ : ∃ x, w.heap.size = x := ⟨_, rfl⟩
  obtain ⟨w2, hw2⟩ : ∃ x, w.alloc (.cells #[.int .u32 id, .int .u32 pe, .int .i64 8, .int .i64 fr, .int .i64 tt, .string co, .int .i64 nu, .string tx] 37) = x := ⟨_, rfl⟩
  have HB2 : Hid (Below w.heap.size w w2) := Lib.hid (by rw [← hw2]; exact bAlloc _ _)
  have HBK : Hid (Bk pb 37 #[.int .u32 id, .int .u32 pe, .int .i64 8, .int .i64 fr, .int .i64 tt, .string co, .int .i64 nu, .string tx] w2) := Lib.hid (by rw [← hw2, ← hpb]; exact Bk.new _ _ _)
  have HE := Lib.hid (And.intro hpb hw2)
  have E2 : w2.cell? ⟨pb, 2, none⟩ = some (.int .i64 8) := HBK.out.cell 2
  have E5 : w2.cell? ⟨pb, 5, none⟩ = some (.string co) := HBK.out.cell 5
  have E6 : w2.cell? ⟨pb, 6, none⟩ = some (.int .i64 nu) := HBK.out.cell 6
  have E7 : w2.cell? ⟨pb, 7, none⟩ = some (.string tx) := HBK.out.cell 7
  clear hpb hw2
  have HF : Hid (textB 8 nu (ls tx) = (ls tx == [])) := Lib.hid rfl
  have HI := Lib.hid (isEmpty_ls tx)
  obtain ⟨v, hv⟩ : ∃ v, tx.toList.isEmpty = v := ⟨_, rfl⟩
  rw [hv] at HI
  go_enter Tryz.func61, Tryz.ntmps61
  go_upto_region 1 with fail
  rw [HE.out.1, HE.out.2]
  go_wp2
  go_ret
  exact ⟨ret_b (by rw [HF.out, ← HI.out]), HB2.out⟩
set_option maxHeartbeats 1000000 in
theorem r8_text9 (id pe fr tt : Int) (co : ByteArray) (nu : Int) (tx : ByteArray) (w : World) : Calls Tryz.prog 61 #[.agg #[.int .u32 id, .int .u32 pe, .int .i64 9, .int .i64 fr, .int .i64 tt, .string co, .int .i64 nu, .string tx]] w fun e w' => e = .returned (.bool (textB 9 nu (ls tx))) ∧ Below w.heap.size w w' := by
  obtain ⟨pb, hpb⟩ : ∃ x, w.heap.size = x := ⟨_, rfl⟩
  obtain ⟨w2, hw2⟩ : ∃ x, w.alloc (.cells #[.int .u32 id, .int .u32 pe, .int .i64 9, .int .i64 fr, .int .i64 tt, .string co, .int .i64 nu, .string tx] 37) = x := ⟨_, rfl⟩
  have HB2 : Hid (Below w.heap.size w w2) := Lib.hid (by rw [← hw2]; exact bAlloc _ _)
  have HBK : Hid (Bk pb 37 #[.int .u32 id, .int .u32 pe, .int .i64 9, .int .i64 fr, .int .i64 tt, .string co, .int .i64 nu, .string tx] w2) := Lib.hid (by rw [← hw2, ← hpb]; exact Bk.new _ _ _)
  have HE := Lib.hid (And.intro hpb hw2)
  have E2 : w2.cell? ⟨pb, 2, none⟩ = some (.int .i64 9) := HBK.out.cell 2
  have E5 : w2.cell? ⟨pb, 5, none⟩ = some (.string co) := HBK.out.cell 5
  have E6 : w2.cell? ⟨pb, 6, none⟩ = some (.int .i64 nu) := HBK.out.cell 6
  have E7 : w2.cell? ⟨pb, 7, none⟩ = some (.string tx) := HBK.out.cell 7
  clear hpb hw2
  have HF : Hid (textB 9 nu (ls tx) = (ls tx == [])) := Lib.hid rfl
  have HI := Lib.hid (isEmpty_ls tx)
  obtain ⟨v, hv⟩ : ∃ v, tx.toList.isEmpty = v := ⟨_, rfl⟩
  rw [hv] at HI
  go_enter Tryz.func61, Tryz.ntmps61
  go_upto_region 1 with fail
  rw [HE.out.1, HE.out.2]
  go_wp2
  go_ret
  exact ⟨ret_b (by rw [HF.out, ← HI.out]), HB2.out⟩
set_option maxHeartbeats 1000000 in
theorem r8_text10 (id pe fr tt : Int) (co : ByteArray) (nu : Int) (tx : ByteArray) (w : World) : Calls Tryz.prog 61 #[.agg #[.int .u32 id, .int .u32 pe, .int .i64 10, .int .i64 fr, .int .i64 tt, .string co, .int .i64 nu, .string tx]] w fun e w' => e = .returned (.bool (textB 10 nu (ls tx))) ∧ Below w.heap.size w w' := by
  obtain ⟨pb, hpb⟩ : ∃ x, w.heap.size = x := ⟨_, rfl⟩
  obtain ⟨w2, hw2⟩ : ∃ x, w.alloc (.cells #[.int .u32 id, .int .u32 pe, .int .i64 10, .int .i64 fr, .int .i64 tt, .string co, .int .i64 nu, .string tx] 37) = x := ⟨_, rfl⟩
  have HB2 : Hid (Below w.heap.size w w2) := Lib.hid (by rw [← hw2]; exact bAlloc _ _)
  have HBK : Hid (Bk pb 37 #[.int .u32 id, .int .u32 pe, .int .i64 10, .int .i64 fr, .int .i64 tt, .string co, .int .i64 nu, .string tx] w2) := Lib.hid (by rw [← hw2, ← hpb]; exact Bk.new _ _ _)
  have HE := Lib.hid (And.intro hpb hw2)
  have E2 : w2.cell? ⟨pb, 2, none⟩ = some (.int .i64 10) := HBK.out.cell 2
  have E5 : w2.cell? ⟨pb, 5, none⟩ = some (.string co) := HBK.out.cell 5
  have E6 : w2.cell? ⟨pb, 6, none⟩ = some (.int .i64 nu) := HBK.out.cell 6
  have E7 : w2.cell? ⟨pb, 7, none⟩ = some (.string tx) := HBK.out.cell 7
  clear hpb hw2
  have HF : Hid (textB 10 nu (ls tx) = (ls tx == [])) := Lib.hid rfl
  have HI := Lib.hid (isEmpty_ls tx)
  obtain ⟨v, hv⟩ : ∃ v, tx.toList.isEmpty = v := ⟨_, rfl⟩
  rw [hv] at HI
  go_enter Tryz.func61, Tryz.ntmps61
  go_upto_region 1 with fail
  rw [HE.out.1, HE.out.2]
  go_wp2
  go_ret
  exact ⟨ret_b (by rw [HF.out, ← HI.out]), HB2.out⟩
set_option maxHeartbeats 1000000 in
theorem r8_text11 (id pe fr tt : Int) (co : ByteArray) (nu : Int) (tx : ByteArray) (w : World) (ht : tx.size ≤ 1000000) : Calls Tryz.prog 61 #[.agg #[.int .u32 id, .int .u32 pe, .int .i64 11, .int .i64 fr, .int .i64 tt, .string co, .int .i64 nu, .string tx]] w fun e w' => e = .returned (.bool (textB 11 nu (ls tx))) ∧ Below w.heap.size w w' := by
  obtain ⟨pb, hpb⟩ : ∃ x, w.heap.size = x := ⟨_, rfl⟩
  obtain ⟨w2, hw2⟩ : ∃ x, w.alloc (.cells #[.int .u32 id, .int .u32 pe, .int .i64 11, .int .i64 fr, .int .i64 tt, .string co, .int .i64 nu, .string tx] 37) = x := ⟨_, rfl⟩
  have HB2 : Hid (Below w.heap.size w w2) := Lib.hid (by rw [← hw2]; exact bAlloc _ _)
  have HBK : Hid (Bk pb 37 #[.int .u32 id, .int .u32 pe, .int .i64 11, .int .i64 fr, .int .i64 tt, .string co, .int .i64 nu, .string tx] w2) := Lib.hid (by rw [← hw2, ← hpb]; exact Bk.new _ _ _)
  have HE := Lib.hid (And.intro hpb hw2)
  have E2 : w2.cell? ⟨pb, 2, none⟩ = some (.int .i64 11) := HBK.out.cell 2
  have E5 : w2.cell? ⟨pb, 5, none⟩ = some (.string co) := HBK.out.cell 5
  have E6 : w2.cell? ⟨pb, 6, none⟩ = some (.int .i64 nu) := HBK.out.cell 6
  have E7 : w2.cell? ⟨pb, 7, none⟩ = some (.string tx) := HBK.out.cell 7
  clear hpb hw2
  have HF : Hid (textB 11 nu (ls tx) = nameB (ls tx)) := Lib.hid rfl
  have HW := Lib.hid (r8_Word tx w2 ht)
  go_enter Tryz.func61, Tryz.ntmps61
  go_upto_region 1 with fail
  rw [HE.out.1, HE.out.2]
  go_wp2_with fail
  refine HW.out.mono ?_
  rintro e w3 ⟨rfl, rfl⟩
  go_wp2
  go_ret
  exact ⟨ret_b HF.out.symm, HB2.out⟩
set_option maxHeartbeats 1000000 in
theorem r8_text12 (id pe fr tt : Int) (co : ByteArray) (nu : Int) (tx : ByteArray) (w : World) (ht : tx.size ≤ 1000000) : Calls Tryz.prog 61 #[.agg #[.int .u32 id, .int .u32 pe, .int .i64 12, .int .i64 fr, .int .i64 tt, .string co, .int .i64 nu, .string tx]] w fun e w' => e = .returned (.bool (textB 12 nu (ls tx))) ∧ Below w.heap.size w w' := by
  obtain ⟨pb, hpb⟩ : ∃ x, w.heap.size = x := ⟨_, rfl⟩
  obtain ⟨w2, hw2⟩ : ∃ x, w.alloc (.cells #[.int .u32 id, .int .u32 pe, .int .i64 12, .int .i64 fr, .int .i64 tt, .string co, .int .i64 nu, .string tx] 37) = x := ⟨_, rfl⟩
  have HB2 : Hid (Below w.heap.size w w2) := Lib.hid (by rw [← hw2]; exact bAlloc _ _)
  have HBK : Hid (Bk pb 37 #[.int .u32 id, .int .u32 pe, .int .i64 12, .int .i64 fr, .int .i64 tt, .string co, .int .i64 nu, .string tx] w2) := Lib.hid (by rw [← hw2, ← hpb]; exact Bk.new _ _ _)
  have HE := Lib.hid (And.intro hpb hw2)
  have E2 : w2.cell? ⟨pb, 2, none⟩ = some (.int .i64 12) := HBK.out.cell 2
  have E5 : w2.cell? ⟨pb, 5, none⟩ = some (.string co) := HBK.out.cell 5
  have E6 : w2.cell? ⟨pb, 6, none⟩ = some (.int .i64 nu) := HBK.out.cell 6
  have E7 : w2.cell? ⟨pb, 7, none⟩ = some (.string tx) := HBK.out.cell 7
  clear hpb hw2
  have HF : Hid (textB 12 nu (ls tx) = orderB (ls tx)) := Lib.hid rfl
  have HW := Lib.hid (r8_order tx w2 ht)
  go_enter Tryz.func61, Tryz.ntmps61
  go_upto_region 1 with fail
  rw [HE.out.1, HE.out.2]
  go_wp2_with fail
  refine HW.out.mono ?_
  rintro e w3 ⟨rfl, hb3⟩
  have HB3 := Lib.hid (bTrans HB2.out hb3)
  clear hb3 E2 E5 E6 E7
  go_wp2
  go_ret
  exact ⟨ret_b HF.out.symm, HB3.out⟩
set_option maxHeartbeats 1000000 in
theorem r8_text13 (id pe fr tt : Int) (co : ByteArray) (nu : Int) (tx : ByteArray) (w : World) (ht : tx.size ≤ 1000000) : Calls Tryz.prog 61 #[.agg #[.int .u32 id, .int .u32 pe, .int .i64 13, .int .i64 fr, .int .i64 tt, .string co, .int .i64 nu, .string tx]] w fun e w' => e = .returned (.bool (textB 13 nu (ls tx))) ∧ Below w.heap.size w w' := by
  obtain ⟨pb, hpb⟩ : ∃ x, w.heap.size = x := ⟨_, rfl⟩
  obtain ⟨w2, hw2⟩ : ∃ x, w.alloc (.cells #[.int .u32 id, .int .u32 pe, .int .i64 13, .int .i64 fr, .int .i64 tt, .string co, .int .i64 nu, .string tx] 37) = x := ⟨_, rfl⟩
  have HB2 : Hid (Below w.heap.size w w2) := Lib.hid (by rw [← hw2]; exact bAlloc _ _)
  have HBK : Hid (Bk pb 37 #[.int .u32 id, .int .u32 pe, .int .i64 13, .int .i64 fr, .int .i64 tt, .string co, .int .i64 nu, .string tx] w2) := Lib.hid (by rw [← hw2, ← hpb]; exact Bk.new _ _ _)
  have HE := Lib.hid (And.intro hpb hw2)
  have E2 : w2.cell? ⟨pb, 2, none⟩ = some (.int .i64 13) := HBK.out.cell 2
  have E5 : w2.cell? ⟨pb, 5, none⟩ = some (.string co) := HBK.out.cell 5
  have E6 : w2.cell? ⟨pb, 6, none⟩ = some (.int .i64 nu) := HBK.out.cell 6
  have E7 : w2.cell? ⟨pb, 7, none⟩ = some (.string tx) := HBK.out.cell 7
  clear hpb hw2
  have HF : Hid (textB 13 nu (ls tx) = nameB (ls tx)) := Lib.hid rfl
  have HW := Lib.hid (r8_Word tx w2 ht)
  go_enter Tryz.func61, Tryz.ntmps61
  go_upto_region 1 with fail
  rw [HE.out.1, HE.out.2]
  go_wp2_with fail
  refine HW.out.mono ?_
  rintro e w3 ⟨rfl, rfl⟩
  go_wp2
  go_ret
  exact ⟨ret_b HF.out.symm, HB2.out⟩
set_option maxHeartbeats 1000000 in
theorem r8_text14 (id pe fr tt : Int) (co : ByteArray) (nu : Int) (tx : ByteArray) (w : World) (ht : tx.size ≤ 1000000) : Calls Tryz.prog 61 #[.agg #[.int .u32 id, .int .u32 pe, .int .i64 14, .int .i64 fr, .int .i64 tt, .string co, .int .i64 nu, .string tx]] w fun e w' => e = .returned (.bool (textB 14 nu (ls tx))) ∧ Below w.heap.size w w' := by
  obtain ⟨pb, hpb⟩ : ∃ x, w.heap.size = x := ⟨_, rfl⟩
  obtain ⟨w2, hw2⟩ : ∃ x, w.alloc (.cells #[.int .u32 id, .int .u32 pe, .int .i64 14, .int .i64 fr, .int .i64 tt, .string co, .int .i64 nu, .string tx] 37) = x := ⟨_, rfl⟩
  have HB2 : Hid (Below w.heap.size w w2) := Lib.hid (by rw [← hw2]; exact bAlloc _ _)
  have HBK : Hid (Bk pb 37 #[.int .u32 id, .int .u32 pe, .int .i64 14, .int .i64 fr, .int .i64 tt, .string co, .int .i64 nu, .string tx] w2) := Lib.hid (by rw [← hw2, ← hpb]; exact Bk.new _ _ _)
  have HE := Lib.hid (And.intro hpb hw2)
  have E2 : w2.cell? ⟨pb, 2, none⟩ = some (.int .i64 14) := HBK.out.cell 2
  have E5 : w2.cell? ⟨pb, 5, none⟩ = some (.string co) := HBK.out.cell 5
  have E6 : w2.cell? ⟨pb, 6, none⟩ = some (.int .i64 nu) := HBK.out.cell 6
  have E7 : w2.cell? ⟨pb, 7, none⟩ = some (.string tx) := HBK.out.cell 7
  clear hpb hw2
  have HF : Hid (textB 14 nu (ls tx) = plainB (ls tx)) := Lib.hid rfl
  have HW := Lib.hid (r8_plain tx w2 ht)
  go_enter Tryz.func61, Tryz.ntmps61
  go_upto_region 1 with fail
  rw [HE.out.1, HE.out.2]
  go_wp2_with fail
  refine HW.out.mono ?_
  rintro e w3 ⟨rfl, rfl⟩
  go_wp2
  go_ret
  exact ⟨ret_b HF.out.symm, HB2.out⟩
set_option maxHeartbeats 1000000 in
theorem r8_text15 (id pe fr tt : Int) (co : ByteArray) (nu : Int) (tx : ByteArray) (w : World) (ht : tx.size ≤ 1000000) : Calls Tryz.prog 61 #[.agg #[.int .u32 id, .int .u32 pe, .int .i64 15, .int .i64 fr, .int .i64 tt, .string co, .int .i64 nu, .string tx]] w fun e w' => e = .returned (.bool (textB 15 nu (ls tx))) ∧ Below w.heap.size w w' := by
  obtain ⟨pb, hpb⟩ : ∃ x, w.heap.size = x := ⟨_, rfl⟩
  obtain ⟨w2, hw2⟩ : ∃ x, w.alloc (.cells #[.int .u32 id, .int .u32 pe, .int .i64 15, .int .i64 fr, .int .i64 tt, .string co, .int .i64 nu, .string tx] 37) = x := ⟨_, rfl⟩
  have HB2 : Hid (Below w.heap.size w w2) := Lib.hid (by rw [← hw2]; exact bAlloc _ _)
  have HBK : Hid (Bk pb 37 #[.int .u32 id, .int .u32 pe, .int .i64 15, .int .i64 fr, .int .i64 tt, .string co, .int .i64 nu, .string tx] w2) := Lib.hid (by rw [← hw2, ← hpb]; exact Bk.new _ _ _)
  have HE := Lib.hid (And.intro hpb hw2)
  have E2 : w2.cell? ⟨pb, 2, none⟩ = some (.int .i64 15) := HBK.out.cell 2
  have E5 : w2.cell? ⟨pb, 5, none⟩ = some (.string co) := HBK.out.cell 5
  have E6 : w2.cell? ⟨pb, 6, none⟩ = some (.int .i64 nu) := HBK.out.cell 6
  have E7 : w2.cell? ⟨pb, 7, none⟩ = some (.string tx) := HBK.out.cell 7
  clear hpb hw2
  have HF : Hid (textB 15 nu (ls tx) = (!(ls tx == []) && plainB (ls tx))) := Lib.hid rfl
  have HI := Lib.hid (isEmpty_ls tx)
  obtain ⟨v, hv⟩ : ∃ v, tx.toList.isEmpty = v := ⟨_, rfl⟩
  rw [hv] at HI
  have HW := Lib.hid (r8_plain tx w2 ht)
  cases v with
  | true =>
    have HG : Hid (textB 15 nu (ls tx) = false) := Lib.hid (by rw [HF.out, ← HI.out]; rfl)
    go_enter Tryz.func61, Tryz.ntmps61
    go_upto_region 1 with fail
    rw [HE.out.1, HE.out.2]
    go_wp2
    go_ret
    exact ⟨ret_b HG.out.symm, HB2.out⟩
  | false =>
    have HG : Hid (textB 15 nu (ls tx) = plainB (ls tx)) := Lib.hid (by rw [HF.out, ← HI.out]; rfl)
    go_enter Tryz.func61, Tryz.ntmps61
    go_upto_region 1 with fail
    rw [HE.out.1, HE.out.2]
    go_wp2_with fail
    refine HW.out.mono ?_
    rintro e w3 ⟨rfl, rfl⟩
    go_wp2
    go_ret
    exact ⟨ret_b HG.out.symm, HB2.out⟩
set_option maxHeartbeats 1000000 in
theorem r8_text16 (id pe fr tt : Int) (co : ByteArray) (nu : Int) (tx : ByteArray) (w : World) : Calls Tryz.prog 61 #[.agg #[.int .u32 id, .int .u32 pe, .int .i64 16, .int .i64 fr, .int .i64 tt, .string co, .int .i64 nu, .string tx]] w fun e w' => e = .returned (.bool (textB 16 nu (ls tx))) ∧ Below w.heap.size w w' := by
  obtain ⟨pb, hpb⟩ : ∃ x, w.heap.size = x := ⟨_, rfl⟩
  obtain ⟨w2, hw2⟩ : ∃ x, w.alloc (.cells #[.int .u32 id, .int .u32 pe, .int .i64 16, .int .i64 fr, .int .i64 tt, .string co, .int .i64 nu, .string tx] 37) = x := ⟨_, rfl⟩
  have HB2 : Hid (Below w.heap.size w w2) := Lib.hid (by rw [← hw2]; exact bAlloc _ _)
  have HBK : Hid (Bk pb 37 #[.int .u32 id, .int .u32 pe, .int .i64 16, .int .i64 fr, .int .i64 tt, .string co, .int .i64 nu, .string tx] w2) := Lib.hid (by rw [← hw2, ← hpb]; exact Bk.new _ _ _)
  have HE := Lib.hid (And.intro hpb hw2)
  have E2 : w2.cell? ⟨pb, 2, none⟩ = some (.int .i64 16) := HBK.out.cell 2
  have E5 : w2.cell? ⟨pb, 5, none⟩ = some (.string co) := HBK.out.cell 5
  have E6 : w2.cell? ⟨pb, 6, none⟩ = some (.int .i64 nu) := HBK.out.cell 6
  have E7 : w2.cell? ⟨pb, 7, none⟩ = some (.string tx) := HBK.out.cell 7
  clear hpb hw2
  have HF : Hid (textB 16 nu (ls tx) = (ls tx == [])) := Lib.hid rfl
  have HI := Lib.hid (isEmpty_ls tx)
  obtain ⟨v, hv⟩ : ∃ v, tx.toList.isEmpty = v := ⟨_, rfl⟩
  rw [hv] at HI
  go_enter Tryz.func61, Tryz.ntmps61
  go_upto_region 1 with fail
  rw [HE.out.1, HE.out.2]
  go_wp2
  go_ret
  exact ⟨ret_b (by rw [HF.out, ← HI.out]), HB2.out⟩
set_option maxHeartbeats 1000000 in
theorem r8_text17 (id pe fr tt : Int) (co : ByteArray) (nu : Int) (tx : ByteArray) (w : World) : Calls Tryz.prog 61 #[.agg #[.int .u32 id, .int .u32 pe, .int .i64 17, .int .i64 fr, .int .i64 tt, .string co, .int .i64 nu, .string tx]] w fun e w' => e = .returned (.bool (textB 17 nu (ls tx))) ∧ Below w.heap.size w w' := by
  obtain ⟨pb, hpb⟩ : ∃ x, w.heap.size = x := ⟨_, rfl⟩
  obtain ⟨w2, hw2⟩ : ∃ x, w.alloc (.cells #[.int .u32 id, .int .u32 pe, .int .i64 17, .int .i64 fr, .int .i64 tt, .string co, .int .i64 nu, .string tx] 37) = x := ⟨_, rfl⟩
  have HB2 : Hid (Below w.heap.size w w2) := Lib.hid (by rw [← hw2]; exact bAlloc _ _)
  have HBK : Hid (Bk pb 37 #[.int .u32 id, .int .u32 pe, .int .i64 17, .int .i64 fr, .int .i64 tt, .string co, .int .i64 nu, .string tx] w2) := Lib.hid (by rw [← hw2, ← hpb]; exact Bk.new _ _ _)
  have HE := Lib.hid (And.intro hpb hw2)
  have E2 : w2.cell? ⟨pb, 2, none⟩ = some (.int .i64 17) := HBK.out.cell 2
  have E5 : w2.cell? ⟨pb, 5, none⟩ = some (.string co) := HBK.out.cell 5
  have E6 : w2.cell? ⟨pb, 6, none⟩ = some (.int .i64 nu) := HBK.out.cell 6
  have E7 : w2.cell? ⟨pb, 7, none⟩ = some (.string tx) := HBK.out.cell 7
  clear hpb hw2
  have HF : Hid (textB 17 nu (ls tx) = (ls tx == [])) := Lib.hid rfl
  have HI := Lib.hid (isEmpty_ls tx)
  obtain ⟨v, hv⟩ : ∃ v, tx.toList.isEmpty = v := ⟨_, rfl⟩
  rw [hv] at HI
  go_enter Tryz.func61, Tryz.ntmps61
  go_upto_region 1 with fail
  rw [HE.out.1, HE.out.2]
  go_wp2
  go_ret
  exact ⟨ret_b (by rw [HF.out, ← HI.out]), HB2.out⟩
set_option maxHeartbeats 1000000 in
theorem r8_text18 (id pe fr tt : Int) (co : ByteArray) (nu : Int) (tx : ByteArray) (w : World) : Calls Tryz.prog 61 #[.agg #[.int .u32 id, .int .u32 pe, .int .i64 18, .int .i64 fr, .int .i64 tt, .string co, .int .i64 nu, .string tx]] w fun e w' => e = .returned (.bool (textB 18 nu (ls tx))) ∧ Below w.heap.size w w' := by
  obtain ⟨pb, hpb⟩ : ∃ x, w.heap.size = x := ⟨_, rfl⟩
  obtain ⟨w2, hw2⟩ : ∃ x, w.alloc (.cells #[.int .u32 id, .int .u32 pe, .int .i64 18, .int .i64 fr, .int .i64 tt, .string co, .int .i64 nu, .string tx] 37) = x := ⟨_, rfl⟩
  have HB2 : Hid (Below w.heap.size w w2) := Lib.hid (by rw [← hw2]; exact bAlloc _ _)
  have HBK : Hid (Bk pb 37 #[.int .u32 id, .int .u32 pe, .int .i64 18, .int .i64 fr, .int .i64 tt, .string co, .int .i64 nu, .string tx] w2) := Lib.hid (by rw [← hw2, ← hpb]; exact Bk.new _ _ _)
  have HE := Lib.hid (And.intro hpb hw2)
  have E2 : w2.cell? ⟨pb, 2, none⟩ = some (.int .i64 18) := HBK.out.cell 2
  have E5 : w2.cell? ⟨pb, 5, none⟩ = some (.string co) := HBK.out.cell 5
  have E6 : w2.cell? ⟨pb, 6, none⟩ = some (.int .i64 nu) := HBK.out.cell 6
  have E7 : w2.cell? ⟨pb, 7, none⟩ = some (.string tx) := HBK.out.cell 7
  clear hpb hw2
  have HF : Hid (textB 18 nu (ls tx) = (ls tx == [])) := Lib.hid rfl
  have HI := Lib.hid (isEmpty_ls tx)
  obtain ⟨v, hv⟩ : ∃ v, tx.toList.isEmpty = v := ⟨_, rfl⟩
  rw [hv] at HI
  go_enter Tryz.func61, Tryz.ntmps61
  go_upto_region 1 with fail
  rw [HE.out.1, HE.out.2]
  go_wp2
  go_ret
  exact ⟨ret_b (by rw [HF.out, ← HI.out]), HB2.out⟩
end Go.Proofs.YtdpejolpjhlibaaGreatDoor
