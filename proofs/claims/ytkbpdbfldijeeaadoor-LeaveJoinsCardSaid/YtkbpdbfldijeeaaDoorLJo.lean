/- The walk of LeaveJoins. -/
import Derived.Test.YtkbpdbfldijeeaaDoorJoi
import Derived.Test.YtkbpdbfldijeeaaDoorDe
import Derived.Test.YtkbpdbfldijeeaaDoorApp
import Derived.WalkSpells
namespace Go.Proofs.YtkbpdbfldijeeaaDoor
open Go.RowKit Go.Sort Go.BigFrame

set_option maxHeartbeats 4000000 in
set_option maxRecDepth 100000 in
theorem lw_Joins (yr ca ex un : Int) (l : List Mv) (A : Option Addr) (cap : Nat) (w : World) (hi : Ints un l) (hcap : l.length ≤ cap) (hgt : ∀ x ∈ l, i64 x.2.1 ∧ i64 x.2.2) (ht : Tabs w) (hs : Sl encM 3 w w.heap.size A l) :
    Calls Tryd.prog 8 #[.agg #[.int .i64 yr, .int .i64 ca, .int .i64 ex], .int .i64 un, .slice A l.length cap] w fun e' w' => e' = .returned (.bool true) ∧ Below w.heap.size w w' := by
  have AW := Lib.hid (fun W (hT : Tabs W) => lv_awake W hT)
  obtain ⟨pb, hpb⟩ : ∃ x, w.heap.size = x := ⟨_, rfl⟩
  obtain ⟨w0, hw0⟩ : ∃ x, w.alloc (.cells #[.int .i64 yr, .int .i64 ca, .int .i64 ex] 23) = x := ⟨_, rfl⟩
  have g0 : Grows w w0 := hw0 ▸ .of_alloc _ _
  have s0 : pb < w0.heap.size := hw0 ▸ hpb ▸ size_new _ _
  have p0 : Bk pb 23 #[.int .i64 yr, .int .i64 ca, .int .i64 ex] w0 := hw0 ▸ hpb ▸ Bk.new w _ _
  have t0 := ht.grows g0
  have hs0 := (hs.grows g0 (Nat.le_refl _)).more g0.size
  have HW := Lib.hid hw0
  have HPB := Lib.hid hpb
  have FIN : Hid (∀ w2, Below w0.heap.size w0 w2 → Below w.heap.size w w2) := Lib.hid fun w2 h => bwTrans g0.below h g0.size
  have HP := Lib.hid p0
  have hlen := hi.len
  have HS := Lib.hid hs0
  have HI := Lib.hid hi
  have HGT := Lib.hid hgt
  clear hw0 hpb hs hs0 p0 hi hgt
  by_cases h1 : l.length = 0
  · go_enter Tryd.func8, Tryd.ntmps8
    go_wp2_with fail
    rw [HW.out]
    refine (AW.out _ t0).mono ?_
    rintro e' w2 ⟨rfl, hb⟩
    go_wp2
    go_ret
    exact ⟨rfl, FIN.out _ hb⟩
  by_cases h2 : 100 < l.length
  · go_enter Tryd.func8, Tryd.ntmps8
    go_wp2_with fail
    rw [HW.out]
    refine (AW.out _ t0).mono ?_
    rintro e' w2 ⟨rfl, hb⟩
    go_wp2
    go_ret
    exact ⟨rfl, FIN.out _ hb⟩
  obtain ⟨b, off, rfl, hB, hc⟩ := HS.out (by intro h; simp [h] at h1)
  have E0 : ((l.length : Int) == 0) = false := beq_eq_false_iff_ne.2 (by omega)
  obtain ⟨k, hk⟩ : ∃ k : Nat, l.length / 2 = k := ⟨_, rfl⟩
  have hk1 : k < l.length := by omega
  obtain ⟨⟨d, gr, tk⟩, hx⟩ : ∃ x, l[k]? = some x := ⟨_, List.getElem?_eq_getElem hk1⟩
  have C0 : w0.cell? ⟨b, off + k * 3, none⟩ = some (.int .i64 d) := by simpa using hc k _ hx 0 _ rfl
  have C1 : w0.cell? ⟨b, off + k * 3 + 1, none⟩ = some (.int .i64 gr) := hc k _ hx 1 _ rfl
  have C2 : w0.cell? ⟨b, off + k * 3 + 2, none⟩ = some (.int .i64 tk) := hc k _ hx 2 _ rfl
  have HGR := Lib.hid (HGT.out _ (List.mem_of_getElem? hx))
  have hgr1 := HGR.out.1
  unfold i64 at hgr1
  simp only at hgr1
  have HX := Lib.hid hx
  have HK := Lib.hid hk
  have HC := Lib.hid hc
  clear hx hk hc
  have K1 : (0 : Int) ≤ k := by omega
  have K2 : (k : Int) < l.length := by omega
  have K5 : ((l.length : Int) / 2) = (k : Int) := by rw [← HK.out]; omega
  obtain ⟨mb, hmb⟩ : ∃ x, w0.heap.size = x := ⟨_, rfl⟩
  obtain ⟨wm, hwm⟩ : ∃ x, w0.alloc (.cells #[.int .i64 d, .int .i64 gr, .int .i64 tk] 42) = x := ⟨_, rfl⟩
  have gm : Grows w0 wm := hwm ▸ .of_alloc _ _
  have bm : Bk mb 42 #[.int .i64 d, .int .i64 gr, .int .i64 tk] wm := hwm ▸ hmb ▸ Bk.new w0 _ _
  have M0 : wm.cell? ⟨mb, 0, none⟩ = some (.int .i64 d) := bm.cell 0
  have M1 : wm.cell? ⟨mb, 1, none⟩ = some (.int .i64 gr) := bm.cell 1
  have M2 : wm.cell? ⟨mb, 2, none⟩ = some (.int .i64 tk) := bm.cell 2
  have tm := t0.grows gm
  have HMB := Lib.hid hmb
  have HMB2 : Hid (w.heap.size + 1 = mb) := Lib.hid (by rw [← hmb, ← HW.out]; simp)
  have HWM := Lib.hid hwm
  have HM := Lib.hid bm
  rw [← HW.out] at C0 C1 C2
  have M1' := M1
  rw [← HWM.out, ← HMB.out, ← HW.out] at M1'
  have HWS : Hid (w.heap.size + 1 + 1 = wm.heap.size) := Lib.hid (by rw [HMB2.out, ← HMB.out, ← HWM.out]; simp)
  clear hwm hmb bm
  by_cases h3 : gr < 2
  · go_enter Tryd.func8, Tryd.ntmps8
    go_wp2_with fail
    rw [HW.out, HWM.out]
    refine (AW.out _ tm).mono ?_
    rintro e' w2 ⟨rfl, hb⟩
    have FB := Lib.hid (FIN.out _ (bwTrans gm.below hb gm.size))
    clear hb
    go_wp2
    go_ret
    exact ⟨rfl, FB.out⟩
  have hsplit : l = l.take k ++ ([(d, gr, tk)] ++ l.drop (k + 1)) := by
    have h1 := HX.out
    apply List.ext_getElem?
    intro i
    rw [List.getElem?_append, List.length_take, Nat.min_eq_left (by omega)]
    split
    · rw [List.getElem?_take, if_pos (by assumption)]
    · rcases hj : i - k with _ | j
      · obtain rfl : i = k := by omega
        rw [h1]; simp
      · obtain rfl : i = k + 1 + j := by omega
        simp [List.getElem?_drop]
  have hPk : (l.take k).length = k := by rw [List.length_take]; omega
  have hQk : (l.drop (k + 1)).length = l.length - (k + 1) := List.length_drop
  generalize l.take k = P at hsplit hPk
  generalize l.drop (k + 1) = Q at hsplit hQk
  have HSP := Lib.hid hsplit
  have HPK := Lib.hid hPk
  have HQK := Lib.hid hQk
  have cP : ∀ W, Grows w0 W → ∀ j u, (rowOf encM P)[j]? = some u → W.cell? ⟨b, off + j, none⟩ = some u := fun W hW => Sl.news encM_len (fun i x hx j u hu => hW.cell hB (HC.out i x (by rw [HSP.out, List.getElem?_append_left (List.getElem?_eq_some_iff.1 hx).1]; exact hx) j u hu))
  have cQ : ∀ W, Below w0.heap.size w0 W → ∀ j u, (rowOf encM Q)[j]? = some u → W.cell? ⟨b, off + (k + 1) * 3 + j, none⟩ = some u := fun W hW => Sl.news encM_len (fun i x hx j u hu => by
    have h1 := HC.out (k + 1 + i) x (by rw [HSP.out, List.getElem?_append_right (by rw [HPK.out]; omega), HPK.out, show k + 1 + i - k = i + 1 by omega]; simpa using hx) j u hu
    rw [show off + (k + 1 + i) * 3 + j = off + (k + 1) * 3 + i * 3 + j by omega] at h1
    exact (hW.cell (p := ⟨b, off + (k + 1) * 3 + i * 3 + j, none⟩) hB).trans h1)
  have CP := Lib.hid cP
  have CQ := Lib.hid cQ
  clear cP cQ hsplit hPk hQk
  obtain ⟨L2, hL2⟩ : ∃ L, P ++ [(d, gr / 2, 0), (d, gr - gr / 2, tk)] ++ Q = L := ⟨_, rfl⟩
  obtain ⟨L3, hL3⟩ : ∃ L, l.set k (d, gr / 2, tk) = L := ⟨_, rfl⟩
  have hL3' : L3 = P ++ ([(d, gr / 2, tk)] ++ Q) := by
    rw [← hL3, HSP.out]
    exact set_mid P Q _ _ HPK.out
  have hL2' : P ++ ([(d, gr / 2, 0), (d, gr - gr / 2, tk)] ++ Q) = L2 := by rw [← hL2, List.append_assoc]
  have hdl : i64 d := HI.out.day _ (List.mem_of_getElem? HX.out)
  have hmem : ∀ x, x ∈ P ∨ x ∈ Q → i64 x.1 := fun x hx => HI.out.day x (by rw [HSP.out]; rcases hx with h | h <;> simp [h])
  have hi2 : Ints un L2 := ⟨by rw [← hL2]; simp [HPK.out, HQK.out]; omega, HI.out.un, fun x hx => by
    rw [← hL2] at hx
    simp only [List.mem_append, List.mem_cons, List.not_mem_nil, or_false] at hx
    rcases hx with (h | h | h) | h
    · exact hmem x (.inl h)
    · rw [h]; exact hdl
    · rw [h]; exact hdl
    · exact hmem x (.inr h)⟩
  have hi3 : Ints un L3 := ⟨by rw [← hL3, List.length_set]; exact hlen, HI.out.un, fun x hx => by
    rw [hL3'] at hx
    simp only [List.mem_append, List.mem_cons, List.not_mem_nil, or_false] at hx
    rcases hx with h | h | h
    · exact hmem x (.inl h)
    · rw [h]; exact hdl
    · exact hmem x (.inr h)⟩
  have HL2n : Hid (L2 ≠ []) := Lib.hid (by rw [← hL2]; simp)
  have e3 : L3.length = l.length := by rw [← hL3, List.length_set]
  have HF := Lib.hid (fun W A' c hT hS => lv_Fold yr ca ex un l A' c W HI.out hT hS)
  have HF2 := Lib.hid (fun W A' c hT hS => lv_Fold yr ca ex un L2 A' c W hi2 hT hS)
  have HF3 := Lib.hid (fun W A' c hT hS => lv_Fold yr ca ex un L3 A' c W hi3 hT hS)
  rw [e3] at HF3
  have HJ0 : chkV yr ca ex un l = 0 → (chkV yr ca ex un L2 = 0 ∧ accV yr ca ex un L2 = accV yr ca ex un l) ∧ chkV yr ca ex un L3 = 0 ∧ (accV yr ca ex un L3).2.2.2 ≤ (accV yr ca ex un l).2.2.2 ∧ (accV yr ca ex un L3).2.2.1 ≤ (accV yr ca ex un l).2.2.1 := fun h => by
    rw [hL3', ← hL2']
    have := HSP.out
    rw [HSP.out] at h h2 ⊢
    exact join_acc (by omega) (by omega) h
  generalize chkV yr ca ex un l = c1 at *
  generalize chkV yr ca ex un L2 = c2 at *
  generalize chkV yr ca ex un L3 = c3 at *
  obtain ⟨⟨g, t, e, kp⟩, ha1⟩ : ∃ a, accV yr ca ex un l = a := ⟨_, rfl⟩
  obtain ⟨⟨g2, t2, e2, k2⟩, ha2⟩ : ∃ a, accV yr ca ex un L2 = a := ⟨_, rfl⟩
  obtain ⟨⟨g3, t3, e3, k3⟩, ha3⟩ : ∃ a, accV yr ca ex un L3 = a := ⟨_, rfl⟩
  rw [ha1] at HF HJ0
  rw [ha2] at HF2 HJ0
  rw [ha3] at HF3 HJ0
  have HJ := Lib.hid HJ0
  have HL2 := Lib.hid hL2
  have HL3 := Lib.hid hL3
  try clear e3
  try clear HJ0
  try clear ha1 ha2 ha3
  try clear hL3'
  try clear hL2'
  try clear hi2 hi3
  try clear hdl hmem
  try clear hL2 hL3
  have K6 : (k : Int) ≤ cap := by omega
  have K7 : IntKind.i64.wrap ((k : Int) + 1) = (k : Int) + 1 := IntWalk.i64_in _ (by omega)
  have K8 : (k : Int) + 1 ≤ l.length := by omega
  have K9 : ((k : Int) + 1).toNat = k + 1 := by omega
  have ge : Grows w0 (wm.alloc (.cells #[] 42)) := gm.alloc _
  have HN2 : ([] : List Mv).length + k ≤ 1000000000 := by simp; omega
  have HN := CP.out _ ge
  have M0' := M0
  have M2' := M2
  rw [← HWM.out, ← HMB.out, ← HW.out] at M0' M2'
  go_enter Tryd.func8, Tryd.ntmps8
  go_wp2_with ((at_builtin; rw [HWS.out, HMB2.out, HW.out, HWM.out, HPB.out]; refine wpList_append_rows encM_len encM_one rfl _ _ 25 rfl wm.heap.size 42 _ 24 Tryd.underlying25 moveInfo rfl (by decide) _ [] P rfl (Own.lit0 _ (Nat.le_refl _)) b off k cap rfl HPK.out HN HN2 (by decide) (Grows.of_alloc wm _).size ?_))
  intro v1 w1 hown1 hgr1
  have bw1 : Below wm.heap.size wm w1 := bwTrans (Grows.of_alloc wm _).below (grownBelow hgr1 (fun k hk => by simp only [Value.ownBlock, Option.some.injEq] at hk; omega) (Grows.of_alloc wm _).size) (Nat.le_refl _)
  have hmlt := HM.out.lt
  have m0 : w1.cell? ⟨mb, 0, none⟩ = some (.int .i64 d) := (bw1.cell (p := ⟨mb, 0, none⟩) hmlt).trans M0
  have m1 : w1.cell? ⟨mb, 1, none⟩ = some (.int .i64 gr) := (bw1.cell (p := ⟨mb, 1, none⟩) hmlt).trans M1
  have m2 : w1.cell? ⟨mb, 2, none⟩ = some (.int .i64 tk) := (bw1.cell (p := ⟨mb, 2, none⟩) hmlt).trans M2
  have hPlen := HPK.out
  have HN3 : P.length + 2 ≤ 1000000000 := by omega
  have HN4 : ∀ j u, (rowOf encM [(d, gr / 2, 0), (d, gr - gr / 2, tk)])[j]? = some u → (w1.alloc (.cells #[.int .i64 d, .int .i64 (gr / 2), .int .i64 0, .int .i64 d, .int .i64 (gr - gr / 2), .int .i64 tk] 42)).cell? ⟨w1.heap.size, 0 + j, none⟩ = some u := fun j u hu => by
    rw [Nat.zero_add]
    refine new_cell _ _ _ _ ?_
    rw [← Array.getElem?_toList]
    exact hu
  have HO1 := Lib.hid hown1
  have BW1 := Lib.hid bw1
  have hb1s := bw1.size
  clear hown1 hgr1 bw1 M0 M1 M2 M0' M1' M2' C0 C1 C2 HN ge
  go_wp2_with ((at_builtin; refine wpList_append_rows encM_len encM_one rfl _ _ 25 rfl wm.heap.size 42 _ 24 Tryd.underlying25 moveInfo rfl (by decide) _ P [(d, gr / 2, 0), (d, gr - gr / 2, tk)] rfl (HO1.out.alloc _) w1.heap.size 0 2 2 rfl rfl HN4 HN3 (by decide) (Nat.le_trans hb1s (Grows.of_alloc w1 _).size) ?_))
  intro v2 w2 hown2 hgr2
  have bw2 : Below wm.heap.size wm w2 := bwTrans BW1.out (bwTrans (belowMono (Grows.of_alloc w1 _).below hb1s) (grownBelow hgr2 (fun k hk => (HO1.out.lt hk).1) (Nat.le_trans hb1s (Grows.of_alloc w1 _).size)) (Nat.le_refl _)) (Nat.le_refl _)
  have HO2 := Lib.hid hown2
  have BW2 := Lib.hid bw2
  have hb2s := bw2.size
  have HN5 := CQ.out w2 (bwTrans gm.below bw2 gm.size)
  have HN6 : (P ++ [(d, gr / 2, 0), (d, gr - gr / 2, tk)]).length + (l.length - (k + 1)) ≤ 1000000000 := by rw [List.length_append]; simp; omega
  have L1 : (l.length : Int) - ((k : Int) + 1) = ((l.length - (k + 1) : Nat) : Int) := by omega
  clear hown2 hgr2 bw2 m0 m1 m2 HN4 hb1s
  by_cases hce : cap = k + 1
  · have HQ0 : Hid (Q = []) := Lib.hid (List.length_eq_zero_iff.1 (by rw [HQK.out]; omega))
    go_wp2_with ((at_builtin; refine wpList_append_rows encM_len encM_one rfl _ _ 25 rfl wm.heap.size 42 _ 24 Tryd.underlying25 moveInfo rfl (by decide) _ (P ++ [(d, gr / 2, 0), (d, gr - gr / 2, tk)]) Q rfl HO2.out b _ _ _ rfl HQK.out (fun j u hu => by rw [HQ0.out] at hu; simp [rowOf] at hu) HN6 (by decide) hb2s ?_))
    intro v3 w3 hown3 hgr3
    have bw3 : Below wm.heap.size wm w3 := bwTrans BW2.out (grownBelow hgr3 (fun k hk => (HO2.out.lt hk).1) hb2s) (Nat.le_refl _)
    have BW3 := Lib.hid bw3
    have hb3s := bw3.size
    have hown3 : Own encM 3 42 wm.heap.size v3 L2 w3 := by rw [← HL2.out]; simpa using hown3
    obtain ⟨cb, cc, rfl, hcb, hcs, hcw, -⟩ := hown3.sl encM_len HL2n.out
    have CW := Lib.hid hcw
    clear hown3 hgr3 bw3 hcw hb2s HN5 HN6
    have HN7 : ([] : List Mv).length + l.length ≤ 1000000000 := by simp; omega
    have HN8 := Sl.news encM_len (w := w3.alloc (.cells #[] 42)) (b := b) (off := off) (S := l) (fun i x hx j u hu => (Grows.of_alloc w3 _).cell (Nat.lt_of_lt_of_le hB (Nat.le_trans gm.size hb3s)) (((bwTrans gm.below BW3.out gm.size).cell (p := ⟨b, off + i * 3 + j, none⟩) hB).trans (HC.out i x hx j u hu)))
    go_wp2_with ((at_builtin; refine wpList_append_rows encM_len encM_one rfl _ _ 25 rfl w3.heap.size 42 _ 24 Tryd.underlying25 moveInfo rfl (by decide) _ [] l rfl (Own.lit0 _ (Nat.le_refl _)) b off _ _ rfl rfl HN8 HN7 (by decide) (Grows.of_alloc w3 _).size ?_))
    intro v4 w4 hown4 hgr4
    have bw4 : Below w3.heap.size w3 w4 := bwTrans (Grows.of_alloc w3 _).below (grownBelow hgr4 (fun k hk => by simp only [Value.ownBlock, Option.some.injEq] at hk; omega) (Grows.of_alloc w3 _).size) (Nat.le_refl _)
    obtain ⟨rb, rc, rfl, hrb, hrs, hrw, -⟩ := hown4.sl encM_len (by intro h; have h : l = [] := h; simp [h] at h1)
    have hput := mvPut (gr' := gr / 2) hrw HX.out
    have n1 : w4.cell? ⟨mb, 1, none⟩ = some (.int .i64 gr) := ((bwTrans BW3.out bw4 hb3s).cell (p := ⟨mb, 1, none⟩) HM.out.lt).trans (HM.out.cell 1)
    have n2 : w4.cell? ⟨rb, k * 3 + 1, none⟩ = some (.int .i64 gr) := Rw.cell hrw HX.out (j := 1) rfl
    have n3 : w4.frozen? ⟨rb, k * 3 + 1, none⟩ = false := Rw.frozen hrw _
    obtain ⟨wz, hwz⟩ : ∃ x, w4.setCell ⟨rb, k * 3 + 1, none⟩ (.int .i64 (gr / 2)) = x := ⟨_, rfl⟩
    rw [hwz, HL3.out] at hput
    have b43 : Below w3.heap.size w3 wz := bwTrans bw4 (hwz ▸ (Below.refl w3.heap.size w4).setCell hrb _) (Nat.le_refl _)
    have bmz : Below wm.heap.size wm wz := bwTrans BW3.out b43 hb3s
    have b0z : Below w0.heap.size w0 wz := bwTrans gm.below bmz gm.size
    have bz : Bk pb 23 #[.int .i64 yr, .int .i64 ca, .int .i64 ex] wz := (b0z.block pb s0).trans HP.out
    have cz : Rw encM 3 42 cb cc L2 wz := CW.out.below b43 hcs
    have sz : Sl encM 3 wz wz.heap.size (some ⟨b, off, none⟩) l := ((HS.out.keep (fun b o hb => b0z.cell (p := ⟨b, o, none⟩) hb)).more b0z.size)
    have tz := t0.below b0z t0.size
    have P0 : wz.cell? ⟨pb, 0, none⟩ = some (.int .i64 yr) := bz.cell 0
    have P1 : wz.cell? ⟨pb, 1, none⟩ = some (.int .i64 ca) := bz.cell 1
    have P2 : wz.cell? ⟨pb, 2, none⟩ = some (.int .i64 ex) := bz.cell 2
    rw [← hwz] at P0 P1 P2
    have HBZ := Lib.hid b0z
    have HBK := Lib.hid bz
    have HCZ := Lib.hid cz
    have HRZ := Lib.hid hput
    have HWZ := Lib.hid hwz
    clear hown4 hgr4 bw4 hrw hput hwz b43 bmz b0z bz cz HN8
    go_wp2_with fail
    rw [HWZ.out]
    refine (HF.out _ _ _ tz sz).mono ?_
    rintro e' w6 ⟨rfl, hb6⟩
    have pl6 : Bk pb 23 #[.int .i64 yr, .int .i64 ca, .int .i64 ex] w6 := (hb6.block pb HBK.out.lt).trans HBK.out
    have c6 := HCZ.out.below hb6 HCZ.out.lt
    have r6 := HRZ.out.below hb6 HRZ.out.lt
    have t6 := tz.below hb6 tz.size
    obtain ⟨ab, hab⟩ : ∃ x, w6.heap.size = x := ⟨_, rfl⟩
    obtain ⟨wa, hwa⟩ : ∃ x, w6.alloc (.cells #[.int .i64 g, .int .i64 t, .int .i64 e, .int .i64 kp] 28) = x := ⟨_, rfl⟩
    have ga : Grows w6 wa := hwa ▸ .of_alloc _ _
    have ba : Bk ab 28 #[.int .i64 g, .int .i64 t, .int .i64 e, .int .i64 kp] wa := hwa ▸ hab ▸ Bk.new w6 _ _
    have pla := pl6.grows ga
    have ca6 : Rw encM 3 42 cb cc L2 wa := c6.below ga.below c6.lt
    have ra6 : Rw encM 3 42 rb rc L3 wa := r6.below ga.below r6.lt
    have sa : Sl encM 3 wa wa.heap.size (some ⟨cb, 0, none⟩) L2 := fun _ => ⟨cb, 0, rfl, ca6.lt, fun i x hx j u hu => by rw [Nat.zero_add]; exact ca6.cell hx hu⟩
    have ta := t6.grows ga
    have q0 : wa.cell? ⟨pb, 0, none⟩ = some (.int .i64 yr) := pla.cell 0
    have q1 : wa.cell? ⟨pb, 1, none⟩ = some (.int .i64 ca) := pla.cell 1
    have q2 : wa.cell? ⟨pb, 2, none⟩ = some (.int .i64 ex) := pla.cell 2
    rw [← hwa] at q0 q1 q2
    have u0 : w6.cell? ⟨pb, 0, none⟩ = some (.int .i64 yr) := pl6.cell 0
    have u1 : w6.cell? ⟨pb, 1, none⟩ = some (.int .i64 ca) := pl6.cell 1
    have u2 : w6.cell? ⟨pb, 2, none⟩ = some (.int .i64 ex) := pl6.cell 2
    have b06 : Below w0.heap.size w0 wa := bwTrans HBZ.out (bwTrans hb6 (bwTrans ga.below (Below.refl _ _) ga.size) hb6.size) HBZ.out.size
    have FIN2 : Hid (∀ w3, Below wa.heap.size wa w3 → Below w.heap.size w w3) := Lib.hid fun w3 h => FIN.out _ (bwTrans b06 h b06.size)
    have HBA := Lib.hid ba
    have HPA := Lib.hid pla
    have HRA := Lib.hid ra6
    have HWA := Lib.hid hwa
    have HAB := Lib.hid hab
    clear P0 P1 P2 n1 n2 n3 hb6 hwa ba ga pl6 pla c6 r6 ca6 ra6 b06 hab
    go_wp2_with fail
    rw [HWA.out, HAB.out]
    refine (HF2.out _ _ _ ta sa).mono ?_
    rintro e' w7 ⟨rfl, hb7⟩
    have pl7 : Bk pb 23 #[.int .i64 yr, .int .i64 ca, .int .i64 ex] w7 := (hb7.block pb HPA.out.lt).trans HPA.out
    have r7 := HRA.out.below hb7 HRA.out.lt
    have t7 := ta.below hb7 ta.size
    have ba7 : Bk ab 28 #[.int .i64 g, .int .i64 t, .int .i64 e, .int .i64 kp] w7 := (hb7.block ab HBA.out.lt).trans HBA.out
    obtain ⟨ac, hac⟩ : ∃ x, w7.heap.size = x := ⟨_, rfl⟩
    obtain ⟨wb, hwb⟩ : ∃ x, w7.alloc (.cells #[.int .i64 g2, .int .i64 t2, .int .i64 e2, .int .i64 k2] 28) = x := ⟨_, rfl⟩
    have gb : Grows w7 wb := hwb ▸ .of_alloc _ _
    have bb : Bk ac 28 #[.int .i64 g2, .int .i64 t2, .int .i64 e2, .int .i64 k2] wb := hwb ▸ hac ▸ Bk.new w7 _ _
    have bab := ba7.grows gb
    have plb := pl7.grows gb
    have rb7 : Rw encM 3 42 rb rc L3 wb := r7.below gb.below r7.lt
    have sb : Sl encM 3 wb wb.heap.size (some ⟨rb, 0, none⟩) L3 := fun _ => ⟨rb, 0, rfl, rb7.lt, fun i x hx j u hu => by rw [Nat.zero_add]; exact rb7.cell hx hu⟩
    have tb := t7.grows gb
    have q0 : wb.cell? ⟨pb, 0, none⟩ = some (.int .i64 yr) := plb.cell 0
    have q1 : wb.cell? ⟨pb, 1, none⟩ = some (.int .i64 ca) := plb.cell 1
    have q2 : wb.cell? ⟨pb, 2, none⟩ = some (.int .i64 ex) := plb.cell 2
    rw [← hwb] at q0 q1 q2
    have u0 : w7.cell? ⟨pb, 0, none⟩ = some (.int .i64 yr) := pl7.cell 0
    have u1 : w7.cell? ⟨pb, 1, none⟩ = some (.int .i64 ca) := pl7.cell 1
    have u2 : w7.cell? ⟨pb, 2, none⟩ = some (.int .i64 ex) := pl7.cell 2
    have bab7 : Below wa.heap.size wa wb := bwTrans hb7 (bwTrans gb.below (Below.refl _ _) gb.size) hb7.size
    have FIN3 : Hid (∀ w3, Below wb.heap.size wb w3 → Below w.heap.size w w3) := Lib.hid fun w3 h => FIN2.out _ (bwTrans bab7 h bab7.size)
    have HBB := Lib.hid bb
    have HBAB := Lib.hid bab
    have HWB := Lib.hid hwb
    have HAC := Lib.hid hac
    clear hb7 hwb ba7 bb bab gb pl7 plb r7 rb7 bab7 hac
    go_wp2_with fail
    rw [HWB.out, HAC.out]
    refine (HF3.out _ _ _ tb sb).mono ?_
    rintro e' w8 ⟨rfl, hb8⟩
    have t8 := tb.below hb8 tb.size
    have ba8 : Bk ab 28 #[.int .i64 g, .int .i64 t, .int .i64 e, .int .i64 kp] w8 := (hb8.block ab HBAB.out.lt).trans HBAB.out
    have bb8 : Bk ac 28 #[.int .i64 g2, .int .i64 t2, .int .i64 e2, .int .i64 k2] w8 := (hb8.block ac HBB.out.lt).trans HBB.out
    obtain ⟨wc, hwc⟩ : ∃ x, w8.alloc (.cells #[.int .i64 g3, .int .i64 t3, .int .i64 e3, .int .i64 k3] 28) = x := ⟨_, rfl⟩
    have gc : Grows w8 wc := hwc ▸ .of_alloc _ _
    have bc : Bk w8.heap.size 28 #[.int .i64 g3, .int .i64 t3, .int .i64 e3, .int .i64 k3] wc := hwc ▸ Bk.new w8 _ _
    have tc := t8.grows gc
    have bac := ba8.grows gc
    have bbc := bb8.grows gc
    have x0 : wc.cell? ⟨ab, 0, none⟩ = some (.int .i64 g) := bac.cell 0
    have x1 : wc.cell? ⟨ab, 1, none⟩ = some (.int .i64 t) := bac.cell 1
    have x2 : wc.cell? ⟨ab, 2, none⟩ = some (.int .i64 e) := bac.cell 2
    have x3 : wc.cell? ⟨ab, 3, none⟩ = some (.int .i64 kp) := bac.cell 3
    have y0 : wc.cell? ⟨ac, 0, none⟩ = some (.int .i64 g2) := bbc.cell 0
    have y1 : wc.cell? ⟨ac, 1, none⟩ = some (.int .i64 t2) := bbc.cell 1
    have y2 : wc.cell? ⟨ac, 2, none⟩ = some (.int .i64 e2) := bbc.cell 2
    have y3 : wc.cell? ⟨ac, 3, none⟩ = some (.int .i64 k2) := bbc.cell 3
    have z0 : wc.cell? ⟨w8.heap.size, 0, none⟩ = some (.int .i64 g3) := bc.cell 0
    have z1 : wc.cell? ⟨w8.heap.size, 1, none⟩ = some (.int .i64 t3) := bc.cell 1
    have z2 : wc.cell? ⟨w8.heap.size, 2, none⟩ = some (.int .i64 e3) := bc.cell 2
    have z3 : wc.cell? ⟨w8.heap.size, 3, none⟩ = some (.int .i64 k3) := bc.cell 3
    rw [← hwc] at x0 x1 x2 x3 y0 y1 y2 y3 z0 z1 z2 z3 tc
    have v0 : w8.cell? ⟨ab, 0, none⟩ = some (.int .i64 g) := ba8.cell 0
    have v1 : w8.cell? ⟨ab, 1, none⟩ = some (.int .i64 t) := ba8.cell 1
    have v2 : w8.cell? ⟨ab, 2, none⟩ = some (.int .i64 e) := ba8.cell 2
    have v3 : w8.cell? ⟨ab, 3, none⟩ = some (.int .i64 kp) := ba8.cell 3
    have s0 : w8.cell? ⟨ac, 0, none⟩ = some (.int .i64 g2) := bb8.cell 0
    have s1 : w8.cell? ⟨ac, 1, none⟩ = some (.int .i64 t2) := bb8.cell 1
    have s2 : w8.cell? ⟨ac, 2, none⟩ = some (.int .i64 e2) := bb8.cell 2
    have s3 : w8.cell? ⟨ac, 3, none⟩ = some (.int .i64 k2) := bb8.cell 3
    have FB4 : Hid (∀ w9, Below (w8.alloc (.cells #[.int .i64 g3, .int .i64 t3, .int .i64 e3, .int .i64 k3] 28)).heap.size (w8.alloc (.cells #[.int .i64 g3, .int .i64 t3, .int .i64 e3, .int .i64 k3] 28)) w9 → Below w.heap.size w w9) := Lib.hid fun w9 h => FIN3.out _ (bwTrans hb8 (bwTrans (Grows.of_alloc w8 _).below h (Grows.of_alloc w8 _).size) hb8.size)
    clear hb8 hwc gc bc bac bbc ba8 bb8 u0 u1 u2 q0 q1 q2
    by_cases hc1 : c1 = 0
    · subst hc1
      have hj := HJ.out rfl
      obtain ⟨⟨rfl, hj2⟩, rfl, hj3, hj4⟩ := hj
      simp only [Prod.mk.injEq] at hj2
      obtain ⟨rfl, rfl, rfl, rfl⟩ := hj2
      try simp only at hj3 hj4
      go_wp2_with fail
      refine (AW.out _ tc).mono ?_
      rintro e' w9 ⟨rfl, hb9⟩
      have FB := Lib.hid (FB4.out _ hb9)
      clear hb9
      go_wp2
      go_ret
      exact ⟨rfl, FB.out⟩
    · have hc2 : (c1 != 0) = true := bne_iff_ne.2 hc1
      go_wp2_with fail
      refine (AW.out _ tc).mono ?_
      rintro e' w9 ⟨rfl, hb9⟩
      have FB := Lib.hid (FB4.out _ hb9)
      clear hb9
      go_wp2
      go_ret
      exact ⟨rfl, FB.out⟩
  · have hce2 : ¬ (cap : Int) = (k : Int) + 1 := by omega
    go_wp2_with ((at_builtin; refine wpList_append_rows encM_len encM_one rfl _ _ 25 rfl wm.heap.size 42 _ 24 Tryd.underlying25 moveInfo rfl (by decide) _ (P ++ [(d, gr / 2, 0), (d, gr - gr / 2, tk)]) Q rfl HO2.out b (off + (k + 1) * 3) _ _ rfl HQK.out HN5 HN6 (by decide) hb2s ?_))
    intro v3 w3 hown3 hgr3
    have bw3 : Below wm.heap.size wm w3 := bwTrans BW2.out (grownBelow hgr3 (fun k hk => (HO2.out.lt hk).1) hb2s) (Nat.le_refl _)
    have BW3 := Lib.hid bw3
    have hb3s := bw3.size
    have hown3 : Own encM 3 42 wm.heap.size v3 L2 w3 := by rw [← HL2.out]; simpa using hown3
    obtain ⟨cb, cc, rfl, hcb, hcs, hcw, -⟩ := hown3.sl encM_len HL2n.out
    have CW := Lib.hid hcw
    clear hown3 hgr3 bw3 hcw hb2s HN5 HN6
    have HN7 : ([] : List Mv).length + l.length ≤ 1000000000 := by simp; omega
    have HN8 := Sl.news encM_len (w := w3.alloc (.cells #[] 42)) (b := b) (off := off) (S := l) (fun i x hx j u hu => (Grows.of_alloc w3 _).cell (Nat.lt_of_lt_of_le hB (Nat.le_trans gm.size hb3s)) (((bwTrans gm.below BW3.out gm.size).cell (p := ⟨b, off + i * 3 + j, none⟩) hB).trans (HC.out i x hx j u hu)))
    go_wp2_with ((at_builtin; refine wpList_append_rows encM_len encM_one rfl _ _ 25 rfl w3.heap.size 42 _ 24 Tryd.underlying25 moveInfo rfl (by decide) _ [] l rfl (Own.lit0 _ (Nat.le_refl _)) b off _ _ rfl rfl HN8 HN7 (by decide) (Grows.of_alloc w3 _).size ?_))
    intro v4 w4 hown4 hgr4
    have bw4 : Below w3.heap.size w3 w4 := bwTrans (Grows.of_alloc w3 _).below (grownBelow hgr4 (fun k hk => by simp only [Value.ownBlock, Option.some.injEq] at hk; omega) (Grows.of_alloc w3 _).size) (Nat.le_refl _)
    obtain ⟨rb, rc, rfl, hrb, hrs, hrw, -⟩ := hown4.sl encM_len (by intro h; have h : l = [] := h; simp [h] at h1)
    have hput := mvPut (gr' := gr / 2) hrw HX.out
    have n1 : w4.cell? ⟨mb, 1, none⟩ = some (.int .i64 gr) := ((bwTrans BW3.out bw4 hb3s).cell (p := ⟨mb, 1, none⟩) HM.out.lt).trans (HM.out.cell 1)
    have n2 : w4.cell? ⟨rb, k * 3 + 1, none⟩ = some (.int .i64 gr) := Rw.cell hrw HX.out (j := 1) rfl
    have n3 : w4.frozen? ⟨rb, k * 3 + 1, none⟩ = false := Rw.frozen hrw _
    obtain ⟨wz, hwz⟩ : ∃ x, w4.setCell ⟨rb, k * 3 + 1, none⟩ (.int .i64 (gr / 2)) = x := ⟨_, rfl⟩
    rw [hwz, HL3.out] at hput
    have b43 : Below w3.heap.size w3 wz := bwTrans bw4 (hwz ▸ (Below.refl w3.heap.size w4).setCell hrb _) (Nat.le_refl _)
    have bmz : Below wm.heap.size wm wz := bwTrans BW3.out b43 hb3s
    have b0z : Below w0.heap.size w0 wz := bwTrans gm.below bmz gm.size
    have bz : Bk pb 23 #[.int .i64 yr, .int .i64 ca, .int .i64 ex] wz := (b0z.block pb s0).trans HP.out
    have cz : Rw encM 3 42 cb cc L2 wz := CW.out.below b43 hcs
    have sz : Sl encM 3 wz wz.heap.size (some ⟨b, off, none⟩) l := ((HS.out.keep (fun b o hb => b0z.cell (p := ⟨b, o, none⟩) hb)).more b0z.size)
    have tz := t0.below b0z t0.size
    have P0 : wz.cell? ⟨pb, 0, none⟩ = some (.int .i64 yr) := bz.cell 0
    have P1 : wz.cell? ⟨pb, 1, none⟩ = some (.int .i64 ca) := bz.cell 1
    have P2 : wz.cell? ⟨pb, 2, none⟩ = some (.int .i64 ex) := bz.cell 2
    rw [← hwz] at P0 P1 P2
    have HBZ := Lib.hid b0z
    have HBK := Lib.hid bz
    have HCZ := Lib.hid cz
    have HRZ := Lib.hid hput
    have HWZ := Lib.hid hwz
    clear hown4 hgr4 bw4 hrw hput hwz b43 bmz b0z bz cz HN8
    go_wp2_with fail
    rw [HWZ.out]
    refine (HF.out _ _ _ tz sz).mono ?_
    rintro e' w6 ⟨rfl, hb6⟩
    have pl6 : Bk pb 23 #[.int .i64 yr, .int .i64 ca, .int .i64 ex] w6 := (hb6.block pb HBK.out.lt).trans HBK.out
    have c6 := HCZ.out.below hb6 HCZ.out.lt
    have r6 := HRZ.out.below hb6 HRZ.out.lt
    have t6 := tz.below hb6 tz.size
    obtain ⟨ab, hab⟩ : ∃ x, w6.heap.size = x := ⟨_, rfl⟩
    obtain ⟨wa, hwa⟩ : ∃ x, w6.alloc (.cells #[.int .i64 g, .int .i64 t, .int .i64 e, .int .i64 kp] 28) = x := ⟨_, rfl⟩
    have ga : Grows w6 wa := hwa ▸ .of_alloc _ _
    have ba : Bk ab 28 #[.int .i64 g, .int .i64 t, .int .i64 e, .int .i64 kp] wa := hwa ▸ hab ▸ Bk.new w6 _ _
    have pla := pl6.grows ga
    have ca6 : Rw encM 3 42 cb cc L2 wa := c6.below ga.below c6.lt
    have ra6 : Rw encM 3 42 rb rc L3 wa := r6.below ga.below r6.lt
    have sa : Sl encM 3 wa wa.heap.size (some ⟨cb, 0, none⟩) L2 := fun _ => ⟨cb, 0, rfl, ca6.lt, fun i x hx j u hu => by rw [Nat.zero_add]; exact ca6.cell hx hu⟩
    have ta := t6.grows ga
    have q0 : wa.cell? ⟨pb, 0, none⟩ = some (.int .i64 yr) := pla.cell 0
    have q1 : wa.cell? ⟨pb, 1, none⟩ = some (.int .i64 ca) := pla.cell 1
    have q2 : wa.cell? ⟨pb, 2, none⟩ = some (.int .i64 ex) := pla.cell 2
    rw [← hwa] at q0 q1 q2
    have u0 : w6.cell? ⟨pb, 0, none⟩ = some (.int .i64 yr) := pl6.cell 0
    have u1 : w6.cell? ⟨pb, 1, none⟩ = some (.int .i64 ca) := pl6.cell 1
    have u2 : w6.cell? ⟨pb, 2, none⟩ = some (.int .i64 ex) := pl6.cell 2
    have b06 : Below w0.heap.size w0 wa := bwTrans HBZ.out (bwTrans hb6 (bwTrans ga.below (Below.refl _ _) ga.size) hb6.size) HBZ.out.size
    have FIN2 : Hid (∀ w3, Below wa.heap.size wa w3 → Below w.heap.size w w3) := Lib.hid fun w3 h => FIN.out _ (bwTrans b06 h b06.size)
    have HBA := Lib.hid ba
    have HPA := Lib.hid pla
    have HRA := Lib.hid ra6
    have HWA := Lib.hid hwa
    have HAB := Lib.hid hab
    clear P0 P1 P2 n1 n2 n3 hb6 hwa ba ga pl6 pla c6 r6 ca6 ra6 b06 hab
    go_wp2_with fail
    rw [HWA.out, HAB.out]
    refine (HF2.out _ _ _ ta sa).mono ?_
    rintro e' w7 ⟨rfl, hb7⟩
    have pl7 : Bk pb 23 #[.int .i64 yr, .int .i64 ca, .int .i64 ex] w7 := (hb7.block pb HPA.out.lt).trans HPA.out
    have r7 := HRA.out.below hb7 HRA.out.lt
    have t7 := ta.below hb7 ta.size
    have ba7 : Bk ab 28 #[.int .i64 g, .int .i64 t, .int .i64 e, .int .i64 kp] w7 := (hb7.block ab HBA.out.lt).trans HBA.out
    obtain ⟨ac, hac⟩ : ∃ x, w7.heap.size = x := ⟨_, rfl⟩
    obtain ⟨wb, hwb⟩ : ∃ x, w7.alloc (.cells #[.int .i64 g2, .int .i64 t2, .int .i64 e2, .int .i64 k2] 28) = x := ⟨_, rfl⟩
    have gb : Grows w7 wb := hwb ▸ .of_alloc _ _
    have bb : Bk ac 28 #[.int .i64 g2, .int .i64 t2, .int .i64 e2, .int .i64 k2] wb := hwb ▸ hac ▸ Bk.new w7 _ _
    have bab := ba7.grows gb
    have plb := pl7.grows gb
    have rb7 : Rw encM 3 42 rb rc L3 wb := r7.below gb.below r7.lt
    have sb : Sl encM 3 wb wb.heap.size (some ⟨rb, 0, none⟩) L3 := fun _ => ⟨rb, 0, rfl, rb7.lt, fun i x hx j u hu => by rw [Nat.zero_add]; exact rb7.cell hx hu⟩
    have tb := t7.grows gb
    have q0 : wb.cell? ⟨pb, 0, none⟩ = some (.int .i64 yr) := plb.cell 0
    have q1 : wb.cell? ⟨pb, 1, none⟩ = some (.int .i64 ca) := plb.cell 1
    have q2 : wb.cell? ⟨pb, 2, none⟩ = some (.int .i64 ex) := plb.cell 2
    rw [← hwb] at q0 q1 q2
    have u0 : w7.cell? ⟨pb, 0, none⟩ = some (.int .i64 yr) := pl7.cell 0
    have u1 : w7.cell? ⟨pb, 1, none⟩ = some (.int .i64 ca) := pl7.cell 1
    have u2 : w7.cell? ⟨pb, 2, none⟩ = some (.int .i64 ex) := pl7.cell 2
    have bab7 : Below wa.heap.size wa wb := bwTrans hb7 (bwTrans gb.below (Below.refl _ _) gb.size) hb7.size
    have FIN3 : Hid (∀ w3, Below wb.heap.size wb w3 → Below w.heap.size w w3) := Lib.hid fun w3 h => FIN2.out _ (bwTrans bab7 h bab7.size)
    have HBB := Lib.hid bb
    have HBAB := Lib.hid bab
    have HWB := Lib.hid hwb
    have HAC := Lib.hid hac
    clear hb7 hwb ba7 bb bab gb pl7 plb r7 rb7 bab7 hac
    go_wp2_with fail
    rw [HWB.out, HAC.out]
    refine (HF3.out _ _ _ tb sb).mono ?_
    rintro e' w8 ⟨rfl, hb8⟩
    have t8 := tb.below hb8 tb.size
    have ba8 : Bk ab 28 #[.int .i64 g, .int .i64 t, .int .i64 e, .int .i64 kp] w8 := (hb8.block ab HBAB.out.lt).trans HBAB.out
    have bb8 : Bk ac 28 #[.int .i64 g2, .int .i64 t2, .int .i64 e2, .int .i64 k2] w8 := (hb8.block ac HBB.out.lt).trans HBB.out
    obtain ⟨wc, hwc⟩ : ∃ x, w8.alloc (.cells #[.int .i64 g3, .int .i64 t3, .int .i64 e3, .int .i64 k3] 28) = x := ⟨_, rfl⟩
    have gc : Grows w8 wc := hwc ▸ .of_alloc _ _
    have bc : Bk w8.heap.size 28 #[.int .i64 g3, .int .i64 t3, .int .i64 e3, .int .i64 k3] wc := hwc ▸ Bk.new w8 _ _
    have tc := t8.grows gc
    have bac := ba8.grows gc
    have bbc := bb8.grows gc
    have x0 : wc.cell? ⟨ab, 0, none⟩ = some (.int .i64 g) := bac.cell 0
    have x1 : wc.cell? ⟨ab, 1, none⟩ = some (.int .i64 t) := bac.cell 1
    have x2 : wc.cell? ⟨ab, 2, none⟩ = some (.int .i64 e) := bac.cell 2
    have x3 : wc.cell? ⟨ab, 3, none⟩ = some (.int .i64 kp) := bac.cell 3
    have y0 : wc.cell? ⟨ac, 0, none⟩ = some (.int .i64 g2) := bbc.cell 0
    have y1 : wc.cell? ⟨ac, 1, none⟩ = some (.int .i64 t2) := bbc.cell 1
    have y2 : wc.cell? ⟨ac, 2, none⟩ = some (.int .i64 e2) := bbc.cell 2
    have y3 : wc.cell? ⟨ac, 3, none⟩ = some (.int .i64 k2) := bbc.cell 3
    have z0 : wc.cell? ⟨w8.heap.size, 0, none⟩ = some (.int .i64 g3) := bc.cell 0
    have z1 : wc.cell? ⟨w8.heap.size, 1, none⟩ = some (.int .i64 t3) := bc.cell 1
    have z2 : wc.cell? ⟨w8.heap.size, 2, none⟩ = some (.int .i64 e3) := bc.cell 2
    have z3 : wc.cell? ⟨w8.heap.size, 3, none⟩ = some (.int .i64 k3) := bc.cell 3
    rw [← hwc] at x0 x1 x2 x3 y0 y1 y2 y3 z0 z1 z2 z3 tc
    have v0 : w8.cell? ⟨ab, 0, none⟩ = some (.int .i64 g) := ba8.cell 0
    have v1 : w8.cell? ⟨ab, 1, none⟩ = some (.int .i64 t) := ba8.cell 1
    have v2 : w8.cell? ⟨ab, 2, none⟩ = some (.int .i64 e) := ba8.cell 2
    have v3 : w8.cell? ⟨ab, 3, none⟩ = some (.int .i64 kp) := ba8.cell 3
    have s0 : w8.cell? ⟨ac, 0, none⟩ = some (.int .i64 g2) := bb8.cell 0
    have s1 : w8.cell? ⟨ac, 1, none⟩ = some (.int .i64 t2) := bb8.cell 1
    have s2 : w8.cell? ⟨ac, 2, none⟩ = some (.int .i64 e2) := bb8.cell 2
    have s3 : w8.cell? ⟨ac, 3, none⟩ = some (.int .i64 k2) := bb8.cell 3
    have FB4 : Hid (∀ w9, Below (w8.alloc (.cells #[.int .i64 g3, .int .i64 t3, .int .i64 e3, .int .i64 k3] 28)).heap.size (w8.alloc (.cells #[.int .i64 g3, .int .i64 t3, .int .i64 e3, .int .i64 k3] 28)) w9 → Below w.heap.size w w9) := Lib.hid fun w9 h => FIN3.out _ (bwTrans hb8 (bwTrans (Grows.of_alloc w8 _).below h (Grows.of_alloc w8 _).size) hb8.size)
    clear hb8 hwc gc bc bac bbc ba8 bb8 u0 u1 u2 q0 q1 q2
    by_cases hc1 : c1 = 0
    · subst hc1
      have hj := HJ.out rfl
      obtain ⟨⟨rfl, hj2⟩, rfl, hj3, hj4⟩ := hj
      simp only [Prod.mk.injEq] at hj2
      obtain ⟨rfl, rfl, rfl, rfl⟩ := hj2
      try simp only at hj3 hj4
      go_wp2_with fail
      refine (AW.out _ tc).mono ?_
      rintro e' w9 ⟨rfl, hb9⟩
      have FB := Lib.hid (FB4.out _ hb9)
      clear hb9
      go_wp2
      go_ret
      exact ⟨rfl, FB.out⟩
    · have hc2 : (c1 != 0) = true := bne_iff_ne.2 hc1
      go_wp2_with fail
      refine (AW.out _ tc).mono ?_
      rintro e' w9 ⟨rfl, hb9⟩
      have FB := Lib.hid (FB4.out _ hb9)
      clear hb9
      go_wp2
      go_ret
      exact ⟨rfl, FB.out⟩
end Go.Proofs.YtkbpdbfldijeeaaDoor
