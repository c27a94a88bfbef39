/- Out of: Yl2 Yl3 Ymi. -/
import Derived.Test.YtgepbkldgnjpfaaGreatDoorZgab
import Derived.BigQuiet
/- year's laws: the example (gen/mkyl2.py). -/
namespace Go.Proofs.YtgepbkldgnjpfaaGreatDoor
open Go.RowKit Go.Sort Go.BigFrame Go.Maps

set_option maxHeartbeats 4000000 in
set_option maxRecDepth 100000 in
theorem la_awake28 (w : World) (hT : TbP w) : Calls Tryz.prog 10 #[] w fun e w' => e = .returned (.bool true) ∧ Below w.heap.size w w' := by
  obtain ⟨zb, hzb⟩ : ∃ x, w.heap.size = x := ⟨_, rfl⟩
  obtain ⟨wa, hwa⟩ : ∃ x, w.alloc (.cells #[.int .i64 0, .int .i64 0, .int .i64 0, .map none, .map none, .int .i64 0, .int .i64 0, .map none] 33) = x := ⟨_, rfl⟩
  have hba : Below w.heap.size w wa := by rw [← hwa]; exact bAlloc _ _
  have HKZ : Hid (Bk zb 33 #[.int .i64 0, .int .i64 0, .int .i64 0, .map none, .map none, .int .i64 0, .int .i64 0, .map none] wa) := Lib.hid (by rw [← hwa, ← hzb]; exact Bk.new _ _ _)
  have HBA := Lib.hid hba
  have HT := Lib.hid (hT.below hba)
  have HZ : Hid (w.heap.size = zb ∧ w.alloc (.cells #[.int .i64 0, .int .i64 0, .int .i64 0, .map none, .map none, .int .i64 0, .int .i64 0, .map none] 33) = wa) := Lib.hid ⟨hzb, hwa⟩
  have HKP : Hid (∀ W, Below wa.heap.size wa W → W.cell? ⟨zb, 0, none⟩ = some (.int .i64 0) ∧ W.cell? ⟨zb, 1, none⟩ = some (.int .i64 0) ∧ W.cell? ⟨zb, 2, none⟩ = some (.int .i64 0) ∧ W.cell? ⟨zb, 3, none⟩ = some (.map none) ∧ W.cell? ⟨zb, 4, none⟩ = some (.map none) ∧ W.cell? ⟨zb, 5, none⟩ = some (.int .i64 0) ∧ W.cell? ⟨zb, 6, none⟩ = some (.int .i64 0) ∧ W.cell? ⟨zb, 7, none⟩ = some (.map none)) := Lib.hid (fun W hW => by
    have h := bkBel HKZ.out hW
    exact ⟨h.cell 0, h.cell 1, h.cell 2, h.cell 3, h.cell 4, h.cell 5, h.cell 6, h.cell 7⟩)
  obtain ⟨B0, hB0⟩ : ∃ x, wa.heap.size = x := ⟨_, rfl⟩
  have HST : Hid (∀ W, Below wa.heap.size wa W → ∀ A, MoOk someM A W → Calls Tryz.prog 16 #[.agg #[.int .i64 0, .int .i64 0, .int .i64 0, .map none, .map none, .int .i64 0, .int .i64 0, .map none], moV someM A] W fun e w' => ∃ v, e = .returned v ∧ Below W.heap.size W w' ∧ (spStep someS 384 B0 ((2024, 1, someL) : Slp) 0).p v w') := Lib.hid (fun W hW A hm => yr_StepV Ste.none StA.none someM A 0 W StOk.none (by omega) hm (HT.out.below hW).tb B0 (by rw [← hB0]; exact hW.size) some_step)
  clear hT hba hwa hzb hB0
  go_enter Tryz.func10, Tryz.ntmps10
  go_upto_region 2 with fail
  rw [HZ.out.2, HZ.out.1]
  go_cut [2, 3, 4] from 5 (fun sp xp ev wx => ∃ tb xb p1 p2 p3 A cap, sp = .pointer (some ⟨tb, 0, none⟩) ∧ xp = .pointer (some ⟨xb, 0, none⟩) ∧ ev = .int .i64 0 ∧ Hid (Bk tb 33 #[.int .i64 2024, .int .i64 1, .int .i64 12, .map p1, .map p2, .int .i64 500000, .int .i64 0, .map p3] wx) ∧ Hid (Bk xb 41 #[.int .i64 2024, .int .i64 1, .slice A 4 cap] wx) ∧ Hid (Own encLi 3 44 B0 (.slice A 4 cap) someL wx) ∧ Hid (StOk someS ⟨.map p1, .map p2, .map p3⟩ 384 wx) ∧ Hid (Below wa.heap.size wa wx))
  case first =>
    refine wp_region_mn (SPS [(1, Sp.val (.pointer (some ⟨zb, 0, none⟩))), (6, Sp.val (.agg #[.int .i64 0, .int .i64 0, .int .i64 0, .map none, .map none, .int .i64 0, .int .i64 0, .map none])), (7, spSome), (8, spStep someS 384 B0 ((2024, 1, someL) : Slp) 0), (9, spSt someS 384), (10, spSl B0 ((2024, 1, someL) : Slp)), (11, Sp.val (.int .i64 0)), (5, spStep someS 384 B0 ((2024, 1, someL) : Slp) 0), (4, Sp.val (.int .i64 0))]) [⟨7, 9, 2, 9, 33, 8⟩, ⟨8, 10, 3, 10, 41, 3⟩] [6, 7, 8, 5, 9, 10, 11, 2, 3, 4] rfl (by rfl) (by kernel_rfl) (SPS.st _) ?_ ?_ ?_ (by decide) (by rfl) ?_ (opsK_all ?_) ?_
    · exact fun p hp t v w b y w2 _ hb hk h => sps_kst (cons_all (by first | exact kst_val _ | exact kst_st _ _ | exact kst_sl _ _ | exact kst_step _ _ _ _ _ | exact kst_some) (cons_all (by first | exact kst_val _ | exact kst_st _ _ | exact kst_sl _ _ | exact kst_step _ _ _ _ _ | exact kst_some) (cons_all (by first | exact kst_val _ | exact kst_st _ _ | exact kst_sl _ _ | exact kst_step _ _ _ _ _ | exact kst_some) (cons_all (by first | exact kst_val _ | exact kst_st _ _ | exact kst_sl _ _ | exact kst_step _ _ _ _ _ | exact kst_some) (cons_all (by first | exact kst_val _ | exact kst_st _ _ | exact kst_sl _ _ | exact kst_step _ _ _ _ _ | exact kst_some) (cons_all (by first | exact kst_val _ | exact kst_st _ _ | exact kst_sl _ _ | exact kst_step _ _ _ _ _ | exact kst_some) (cons_all (by first | exact kst_val _ | exact kst_st _ _ | exact kst_sl _ _ | exact kst_step _ _ _ _ _ | exact kst_some) (cons_all (by first | exact kst_val _ | exact kst_st _ _ | exact kst_sl _ _ | exact kst_step _ _ _ _ _ | exact kst_some) (cons_all (by first | exact kst_val _ | exact kst_st _ _ | exact kst_sl _ _ | exact kst_step _ _ _ _ _ | exact kst_some) (nil_all)))))))))) (by simp only [List.mem_cons, List.not_mem_nil, or_false] at hp; rcases hp with rfl | rfl <;> first | exact Or.inl rfl | exact Or.inr rfl) hb.bk hk h
    · intro p hp v w s hs
      simp only [List.mem_cons, List.not_mem_nil, or_false] at hp
      rcases hp with rfl | rfl
      all_goals cases hs
    · intro p hp
      simp only [List.mem_cons, List.not_mem_nil, or_false] at hp
      rcases hp with rfl | rfl
      all_goals exact ⟨_, rfl, by kernel_rfl, by kernel_rfl⟩
    · exact sps_start (cons_all rfl (nil_all))
    · refine opsK_cons (by
       exact kindn_n (opOk_load (p := ⟨zb, 0, none⟩) rfl rfl (.inl rfl) (by kernel_rfl) (fun _ _ h => h.get rfl) (fun W hW => by
          obtain ⟨c0, c1, c2, c3, c4, c5, c6, c7⟩ := HKP.out W hW
          exact ⟨.agg #[.int .i64 0, .int .i64 0, .int .i64 0, .map none, .map none, .int .i64 0, .int .i64 0, .map none], by go_simp, sps rfl rfl⟩)) (by decide)) ?_
      refine opsK_cons (by
       exact kindn_n (opOk_callg (fun a => #[]) rfl rfl (.inl rfl) (fun a => by simp only [List.map_toArray, List.map_nil] <;> rfl) (fun args W => by go_simp) (fun a W hW hsp => by
          
          exact (la_some W).mono fun e w' ⟨v, he, hb, hs⟩ => ⟨v, he, hb, sps rfl hs⟩)) (by decide)) ?_
      refine opsK_cons (by
       exact kindn_n (opOk_callg (fun a => #[a.eval (.tmp 6), a.eval (.tmp 7)]) rfl rfl (.inl rfl) (fun a => by simp only [List.map_toArray, List.map_cons, List.map_nil] <;> rfl) (fun args W => by go_simp) (fun a W hW hsp => by
          have e6 : a.eval (.tmp 6) = .agg #[.int .i64 0, .int .i64 0, .int .i64 0, .map none, .map none, .int .i64 0, .int .i64 0, .map none] := (hsp 6 (by kernel_rfl)).get rfl
          obtain ⟨b1, b2, b3, hv, k1, k2, k3⟩ := (hsp 7 (by kernel_rfl)).get rfl
          have e7 : a.eval (.tmp 7) = moV someM (someA b1 b2 b3) := hv
          simp only [e6, e7]
          exact (HST.out W hW _ (some_ok k1 k2 k3)).mono fun e w' ⟨v, he, hb, hs⟩ => ⟨v, he, hb, sps rfl hs⟩)) (by decide)) ?_
      refine opsK_cons (by
       exact kindn_n (opOk_move rfl rfl (.inl rfl) (by kernel_rfl) (fun _ _ h => sps rfl (h.get rfl))) (by decide)) ?_
      refine opsK_cons (by
       exact kindn_n (opOk_run rfl (.inl rfl) (fun a W hW hsp => by
          obtain ⟨va, vb, hv, k1, k2⟩ := (hsp 5 (by kernel_rfl)).get rfl
          have e5 : a.eval (.tmp 5) = .tuple #[va, vb, .int .i64 0] := hv
          refine ⟨va, ?_, sps rfl k1⟩
          unfold execOp
          simp only [e5]
          go_simp)) (by decide)) ?_
      refine opsK_cons (by
       exact kindn_n (opOk_run rfl (.inl rfl) (fun a W hW hsp => by
          obtain ⟨va, vb, hv, k1, k2⟩ := (hsp 5 (by kernel_rfl)).get rfl
          have e5 : a.eval (.tmp 5) = .tuple #[va, vb, .int .i64 0] := hv
          refine ⟨vb, ?_, sps rfl k2⟩
          unfold execOp
          simp only [e5]
          go_simp)) (by decide)) ?_
      refine opsK_cons (by
       exact kindn_n (opOk_run rfl (.inl rfl) (fun a W hW hsp => by
          obtain ⟨va, vb, hv, k1, k2⟩ := (hsp 5 (by kernel_rfl)).get rfl
          have e5 : a.eval (.tmp 5) = .tuple #[va, vb, .int .i64 0] := hv
          refine ⟨.int .i64 0, ?_, sps rfl rfl⟩
          unfold execOp
          simp only [e5]
          go_simp)) (by decide)) ?_
      refine opsK_cons (by exact kindn_alloc ⟨7, 9, 2, 9, 33, 8⟩ #[.int .i64 0, .int .i64 0, .int .i64 0, .map none, .map none, .int .i64 0, .int .i64 0, .map none] (by simp) rfl rfl rfl rfl (by decide) (by decide) (fun _ _ => run_newSt rfl)) ?_
      refine opsK_cons (by exact kindn_alloc ⟨8, 10, 3, 10, 41, 3⟩ #[.int .i64 0, .int .i64 0, .slice none 0 0] (by simp) rfl rfl rfl rfl (by decide) (by decide) (fun _ _ => run_newSlp rfl)) ?_
      refine opsK_cons (by exact kindn_store ⟨7, 9, 2, 9, 33, 8⟩ (by simp) rfl rfl rfl (by kernel_rfl) (by kernel_rfl) (by kernel_rfl) (by decide) (fun _ _ _ _ h1 h2 h3 => run_putSt rfl h1 (h2.get rfl) h3)) ?_
      refine opsK_cons (by exact kindn_store ⟨8, 10, 3, 10, 41, 3⟩ (by simp) rfl rfl rfl (by kernel_rfl) (by kernel_rfl) (by kernel_rfl) (by decide) (fun _ _ _ _ h1 h2 h3 => run_putSlp rfl h1 (h2.get rfl) h3)) ?_
      refine opsK_cons (by
       exact kindn_n (opOk_assign rfl rfl (.inl rfl) (by kernel_rfl) (fun _ _ h => sps rfl (h.get rfl))) (by decide)) ?_
      exact opsK_nil
    · intro vs W hb hsp hmk
      obtain ⟨tb, y1, e1, hl1, hk1, z1⟩ := hmk ⟨7, 9, 2, 9, 33, 8⟩ (by simp)
      obtain ⟨xb, y2, e2, hl2, hk2, z2⟩ := hmk ⟨8, 10, 3, 10, 41, 3⟩ (by simp)
      obtain ⟨p1, p2, p3, q1, hst⟩ := (hsp 9).get rfl
      obtain ⟨A, cap, q2, hsl⟩ := (hsp 10).get rfl
      have z4 := (hsp 4).get rfl
      rw [z1] at q1
      rw [z2] at q2
      injection q1 with q1
      injection q2 with q2
      subst q1 q2
      clear z1 z2 hmk hsp
      simp only [putAll]
      go_simp
      go_step
      go_meet
      exact ⟨tb, xb, p1, p2, p3, A, cap, rfl, rfl, z4, Lib.hid hk1.bk, Lib.hid hk2.bk, Lib.hid hsl, Lib.hid hst, Lib.hid hb⟩
  case rest =>
  obtain ⟨tb, xb, p1, p2, p3, A, cap, rfl, rfl, rfl, HTB, HXB, HOL, HSS, HBX⟩ := hcut
  rename World => wc
  obtain ⟨A', cap', he, hsl⟩ := own_Sl encLi_len HOL.out
  injection he with he1 he2 he3
  subst he1
  obtain ⟨b, off, rfl, hB, hc⟩ := hsl (by simp [someL])
  have t0 : wc.cell? ⟨b, off + 6, none⟩ = some (.int .i64 5) := hc 2 (5, cLoan, 10000) rfl 0 _ rfl
  have t1 : wc.cell? ⟨b, off + 6 + 1, none⟩ = some (.string { data := #[108, 111, 97, 110] }) := hc 2 (5, cLoan, 10000) rfl 1 _ rfl
  have t2 : wc.cell? ⟨b, off + 6 + 2, none⟩ = some (.int .i64 10000) := hc 2 (5, cLoan, 10000) rfl 2 _ rfl
  have s0 : wc.cell? ⟨tb, 0, none⟩ = some (.int .i64 2024) := Bk.cell (HTB.out) 0
  have s1 : wc.cell? ⟨tb, 1, none⟩ = some (.int .i64 1) := Bk.cell (HTB.out) 1
  have s2 : wc.cell? ⟨tb, 2, none⟩ = some (.int .i64 12) := Bk.cell (HTB.out) 2
  have s3 : wc.cell? ⟨tb, 3, none⟩ = some (.map p1) := Bk.cell (HTB.out) 3
  have s4 : wc.cell? ⟨tb, 4, none⟩ = some (.map p2) := Bk.cell (HTB.out) 4
  have s5 : wc.cell? ⟨tb, 5, none⟩ = some (.int .i64 500000) := Bk.cell (HTB.out) 5
  have s6 : wc.cell? ⟨tb, 6, none⟩ = some (.int .i64 0) := Bk.cell (HTB.out) 6
  have s7 : wc.cell? ⟨tb, 7, none⟩ = some (.map p3) := Bk.cell (HTB.out) 7
  have x0 : wc.cell? ⟨xb, 0, none⟩ = some (.int .i64 2024) := Bk.cell (HXB.out) 0
  have x1 : wc.cell? ⟨xb, 1, none⟩ = some (.int .i64 1) := Bk.cell (HXB.out) 1
  have x2 : wc.cell? ⟨xb, 2, none⟩ = some (.slice (some ⟨b, off, none⟩) 4 cap) := Bk.cell (HXB.out) 2
  have HTX : Hid (Calls Tryz.prog 15 #[.agg #[.int .i64 2024, .int .i64 1, .int .i64 12, .map p1, .map p2, .int .i64 500000, .int .i64 0, .map p3]] wc fun e w' => e = .returned (.string someT) ∧ Below wc.heap.size wc w') := Lib.hid (by
    have h := yr_Text someS ⟨.map p1, .map p2, .map p3⟩ 384 wc HSS.out (by omega) ⟨fun _ h => absurd h (by simp [someS]), fun p hp => by simp only [someS, List.mem_singleton] at hp; subst hp; decide, fun p hp => by simp only [someS, List.mem_singleton] at hp; subst hp; decide⟩ (tx_size (n := 1) (S := someS) ⟨⟨fun _ h => absurd h (by simp [someS]), fun p hp => by simp only [someS, List.mem_singleton] at hp; subst hp; decide, fun p hp => by simp only [someS, List.mem_singleton] at hp; subst hp; decide⟩, by decide, by decide, by decide⟩ (by omega) (by decide)) (HT.out.below HBX.out)
    rw [some_text] at h
    exact h)
  have HBW : Hid (Below w.heap.size w wc) := Lib.hid (bTrans HBA.out HBX.out)
  unfold someT at HTX
  clear hc hsl he2 he3 HZ
  go_wp2_with (go_at_call 15; refine HTX.out.mono ?_; rintro e w5 ⟨rfl, hb5⟩)
  go_ret
  exact ⟨rfl, bTrans HBW.out hb5⟩
end Go.Proofs.YtgepbkldgnjpfaaGreatDoor

/- year's laws: slips compared; is there more than is asked of (gen/mkyl3.py). -/
namespace Go.Proofs.YtgepbkldgnjpfaaGreatDoor
open Go.RowKit Go.Sort Go.BigFrame Go.Maps

theorem ne_li (p c : Int) (s : ByteArray) (W : World) : (binOp .neq 44 (.agg #[.int .i64 p, .string s, .int .i64 c]) (.agg #[.int .i64 p, .string s, .int .i64 c])).run Tryz.prog W = .ok (.bool false) W := by
  go_simp
set_option maxHeartbeats 4000000 in
set_option maxRecDepth 100000 in
theorem la_same (y i : Int) (l : List Li) (A1 A2 : Option Addr) (c1 c2 : Nat) (w : World) (hn : l.length ≤ 1000000) (h1 : Sl encLi 3 w w.heap.size A1 l) (h2 : Sl encLi 3 w w.heap.size A2 l) :
    Calls Tryz.prog 14 #[.agg #[.int .i64 y, .int .i64 i, .slice A1 l.length c1], .agg #[.int .i64 y, .int .i64 i, .slice A2 l.length c2]] w fun e w' => e = .returned (.bool true) ∧ Below w.heap.size w w' := by
  obtain ⟨b1, hb1⟩ : ∃ x, w.heap.size = x := ⟨_, rfl⟩
  obtain ⟨b2, hb2⟩ : ∃ x, b1 + 1 = x := ⟨_, rfl⟩
  obtain ⟨u1, hu1⟩ : ∃ x, w.alloc (.cells #[.int .i64 y, .int .i64 i, .slice A1 l.length c1] 41) = x := ⟨_, rfl⟩
  obtain ⟨wa, hwa⟩ : ∃ x, u1.alloc (.cells #[.int .i64 y, .int .i64 i, .slice A2 l.length c2] 41) = x := ⟨_, rfl⟩
  have z1 : u1.heap.size = b2 := by rw [← hu1]; simp; omega
  have g1 : Below w.heap.size w u1 := by rw [← hu1]; exact bAlloc _ _
  have g2 : Below u1.heap.size u1 wa := by rw [← hwa]; exact bAlloc _ _
  have k1 : Bk b1 41 #[.int .i64 y, .int .i64 i, .slice A1 l.length c1] wa := bkBel (by rw [← hu1, ← hb1]; exact Bk.new _ _ _) g2
  have k2 : Bk b2 41 #[.int .i64 y, .int .i64 i, .slice A2 l.length c2] wa := by rw [← hwa, ← z1]; exact Bk.new _ _ _
  have HK1 := Lib.hid k1
  have HK2 := Lib.hid k2
  have HBA : Hid (Below w.heap.size w wa) := Lib.hid (bTrans g1 g2)
  have H1 := Lib.hid (h1.below HBA.out)
  have H2 := Lib.hid (h2.below HBA.out)
  have HWF : Hid ((w.alloc (.cells #[.int .i64 y, .int .i64 i, .slice A1 l.length c1] 41)).alloc (.cells #[.int .i64 y, .int .i64 i, .slice A2 l.length c2] 41) = wa ∧ w.heap.size + 1 = b2 ∧ w.heap.size = b1) := Lib.hid ⟨by rw [hu1, hwa], by omega, hb1⟩
  have e0 : wa.cell? ⟨b1, 0, none⟩ = some (.int .i64 y) := Bk.cell (k1) 0
  have e1 : wa.cell? ⟨b1, 1, none⟩ = some (.int .i64 i) := Bk.cell (k1) 1
  have e2 : wa.cell? ⟨b1, 2, none⟩ = some (.slice A1 l.length c1) := Bk.cell (k1) 2
  have f0 : wa.cell? ⟨b2, 0, none⟩ = some (.int .i64 y) := Bk.cell (k2) 0
  have f1 : wa.cell? ⟨b2, 1, none⟩ = some (.int .i64 i) := Bk.cell (k2) 1
  have f2 : wa.cell? ⟨b2, 2, none⟩ = some (.slice A2 l.length c2) := Bk.cell (k2) 2
  clear g1 g2 k1 k2 hu1 hwa z1 hb1 hb2 h1 h2
  go_enter Tryz.func14, Tryz.ntmps14
  go_upto_region 1 with fail
  rw [HWF.out.1, HWF.out.2.1, HWF.out.2.2]
  clear HWF
  go_wp2_with fail
  go_loopw [5] (fun iv wr => ∃ (n : Nat), n ≤ l.length ∧ iv = .int .i64 n ∧ Hid (Below wa.heap.size wa wr)) (fun iv _ => l.length - (intOf iv).toNat)
  case atStart => exact ⟨0, Nat.zero_le _, rfl, Lib.hid (Below.refl _ _)⟩
  case round =>
    obtain ⟨n, hn1, rfl, HB⟩ := hrel
    clear e0 e1 e2 f0 f1 f2
    have e0 : wr.cell? ⟨b1, 0, none⟩ = some (.int .i64 y) := Bk.cell (bkBel HK1.out HB.out) 0
    have e1 : wr.cell? ⟨b1, 1, none⟩ = some (.int .i64 i) := Bk.cell (bkBel HK1.out HB.out) 1
    have e2 : wr.cell? ⟨b1, 2, none⟩ = some (.slice A1 l.length c1) := Bk.cell (bkBel HK1.out HB.out) 2
    have f0 : wr.cell? ⟨b2, 0, none⟩ = some (.int .i64 y) := Bk.cell (bkBel HK2.out HB.out) 0
    have f1 : wr.cell? ⟨b2, 1, none⟩ = some (.int .i64 i) := Bk.cell (bkBel HK2.out HB.out) 1
    have f2 : wr.cell? ⟨b2, 2, none⟩ = some (.slice A2 l.length c2) := Bk.cell (bkBel HK2.out HB.out) 2
    by_cases hlt : n < l.length
    · obtain ⟨a1, o1, rfl, hB1, hc1⟩ := (H1.out.below HB.out) (by intro h; simp [h] at hlt)
      obtain ⟨a2, o2, rfl, hB2, hc2⟩ := (H2.out.below HB.out) (by intro h; simp [h] at hlt)
      obtain ⟨⟨p, s, c⟩, hx⟩ : ∃ x, l[n]? = some x := ⟨_, List.getElem?_eq_getElem hlt⟩
      have q0 : wr.cell? ⟨a1, o1 + n * 3, none⟩ = some (.int .i64 p) := by simpa using hc1 n _ hx 0 _ rfl
      have q1 : wr.cell? ⟨a1, o1 + n * 3 + 1, none⟩ = some (.string s) := hc1 n _ hx 1 _ rfl
      have q2 : wr.cell? ⟨a1, o1 + n * 3 + 2, none⟩ = some (.int .i64 c) := hc1 n _ hx 2 _ rfl
      have r0 : wr.cell? ⟨a2, o2 + n * 3, none⟩ = some (.int .i64 p) := by simpa using hc2 n _ hx 0 _ rfl
      have r1 : wr.cell? ⟨a2, o2 + n * 3 + 1, none⟩ = some (.string s) := hc2 n _ hx 1 _ rfl
      have r2 : wr.cell? ⟨a2, o2 + n * 3 + 2, none⟩ = some (.int .i64 c) := hc2 n _ hx 2 _ rfl
      have hq := ne_li p c s
      have HBD : Hid (∀ q, Below wa.heap.size wa (wr.drewN q)) := Lib.hid (fun q => HB.out.trans ((below_drewN (Below.refl wr.heap.size wr) q).mono HB.out.size))
      clear hc1 hc2 hx hB1 hB2
      go_wp2_with fail
      go_quiet (fail)
      go_wp2
      exact ⟨⟨n + 1, by omega, by go_num, Lib.hid (HBD.out _)⟩, by simp [intOf]; omega⟩
    · obtain rfl : n = l.length := by omega
      go_wp2
      go_ret
      exact ⟨rfl, HBA.out.trans (HB.out.mono HBA.out.size)⟩
/-- How much a month holds. -/
def moN (M : Mon) : Nat := M.gr.length + M.be.length + M.af.length + M.li.length + M.sc.length + M.od.length + M.ba.length
def moS : List Mon → Nat
  | [] => 0
  | M :: r => moN M + moS r
theorem moS_append : ∀ (l r : List Mon), moS (l ++ r) = moS l + moS r
  | [], r => by simp [moS]
  | M :: l, r => by
    show moN M + moS (l ++ r) = moN M + moS l + moS r
    rw [moS_append l r]; omega
/-- More than is asked of. -/
def greatB (l : List Mon) : Bool := decide (500 < l.length + moS (l.take 30)) || decide (30 < l.length)
set_option maxHeartbeats 4000000 in
set_option maxRecDepth 100000 in
theorem la_great (l : List (Mon × MoA)) (A : Option Addr) (cap : Nat) (w : World) (hl : l.length ≤ 140737488355328) (hr : ∀ p ∈ l, moN p.1 ≤ 1407374883553280) (hs : Sl encMo 12 w w.heap.size A l) :
    Calls Tryz.prog 9 #[.slice A l.length cap] w fun e w' => e = .returned (.bool (greatB (l.map Prod.fst))) ∧ Below w.heap.size w w' := by
  have HS := Lib.hid hs
  have HR := Lib.hid hr
  have HGB : Hid (greatB (l.map Prod.fst) = (decide (500 < l.length + moS ((l.map Prod.fst).take 30)) || decide (30 < l.length))) := Lib.hid (by unfold greatB; rw [List.length_map])
  obtain ⟨G, hG⟩ : ∃ g, greatB (l.map Prod.fst) = g := ⟨_, rfl⟩
  rw [hG] at HGB ⊢
  clear hs hr hG
  go_enter Tryz.func9, Tryz.ntmps9
  go_wp2_with fail
  go_loopw [3, 4] (fun nv iv wr => ∃ (n m : Nat), n ≤ l.length ∧ n ≤ 30 ∧ iv = .int .i64 n ∧ nv = .int .i64 m ∧ m = l.length + moS ((l.map Prod.fst).take n) ∧ m ≤ l.length + n * 1407374883553280 ∧ Hid (Below w.heap.size w wr)) (fun _ iv _ => l.length - (intOf iv).toNat)
  case atStart => exact ⟨0, l.length, Nat.zero_le _, Nat.zero_le _, rfl, rfl, by simp [moS], by omega, Lib.hid (Below.refl _ _)⟩
  case round =>
    obtain ⟨n, m, hn1, hn30, rfl, rfl, hm, hmb, HB⟩ := hrel
    have HM := Lib.hid hm
    clear hm
    by_cases hlt : n < l.length
    · by_cases h30 : n < 30
      · obtain ⟨b, off, rfl, hB, hc⟩ := HS.out (by intro h; simp [h] at hlt)
        obtain ⟨⟨M, MA⟩, hx⟩ : ∃ x, l[n]? = some x := ⟨_, List.getElem?_eq_getElem hlt⟩
        obtain ⟨x0, hx0⟩ : ∃ x, M.gr.length = x := ⟨_, rfl⟩
        obtain ⟨x1, hx1⟩ : ∃ x, M.be.length = x := ⟨_, rfl⟩
        obtain ⟨x2, hx2⟩ : ∃ x, M.af.length = x := ⟨_, rfl⟩
        obtain ⟨x3, hx3⟩ : ∃ x, M.li.length = x := ⟨_, rfl⟩
        obtain ⟨x4, hx4⟩ : ∃ x, M.sc.length = x := ⟨_, rfl⟩
        obtain ⟨x5, hx5⟩ : ∃ x, M.od.length = x := ⟨_, rfl⟩
        obtain ⟨x6, hx6⟩ : ∃ x, M.ba.length = x := ⟨_, rfl⟩
        have c0 : wr.cell? ⟨b, off + n * 12, none⟩ = some (.int .i64 M.y) := (HB.out.cell (p := ⟨b, off + n * 12, none⟩) hB).trans (by simpa using hc n _ hx 0 _ rfl)
        have c1 : wr.cell? ⟨b, off + n * 12 + 1, none⟩ = some (.int .i64 M.i) := (HB.out.cell (p := ⟨b, off + n * 12 + 1, none⟩) hB).trans (hc n _ hx 1 _ rfl)
        have c2 : wr.cell? ⟨b, off + n * 12 + 2, none⟩ = some (.int .i64 M.o) := (HB.out.cell (p := ⟨b, off + n * 12 + 2, none⟩) hB).trans (hc n _ hx 2 _ rfl)
        have c3 : wr.cell? ⟨b, off + n * 12 + 3, none⟩ = some (.slice MA.gr.1 x0 MA.gr.2) := (HB.out.cell (p := ⟨b, off + n * 12 + 3, none⟩) hB).trans (by rw [← hx0]; exact hc n _ hx 3 _ rfl)
        have c4 : wr.cell? ⟨b, off + n * 12 + 4, none⟩ = some (.slice MA.be.1 x1 MA.be.2) := (HB.out.cell (p := ⟨b, off + n * 12 + 4, none⟩) hB).trans (by rw [← hx1]; exact hc n _ hx 4 _ rfl)
        have c5 : wr.cell? ⟨b, off + n * 12 + 5, none⟩ = some (.slice MA.af.1 x2 MA.af.2) := (HB.out.cell (p := ⟨b, off + n * 12 + 5, none⟩) hB).trans (by rw [← hx2]; exact hc n _ hx 5 _ rfl)
        have c6 : wr.cell? ⟨b, off + n * 12 + 6, none⟩ = some (.slice MA.li.1 x3 MA.li.2) := (HB.out.cell (p := ⟨b, off + n * 12 + 6, none⟩) hB).trans (by rw [← hx3]; exact hc n _ hx 6 _ rfl)
        have c7 : wr.cell? ⟨b, off + n * 12 + 7, none⟩ = some (.slice MA.sc.1 x4 MA.sc.2) := (HB.out.cell (p := ⟨b, off + n * 12 + 7, none⟩) hB).trans (by rw [← hx4]; exact hc n _ hx 7 _ rfl)
        have c8 : wr.cell? ⟨b, off + n * 12 + 8, none⟩ = some (.int .i64 M.al) := (HB.out.cell (p := ⟨b, off + n * 12 + 8, none⟩) hB).trans (hc n _ hx 8 _ rfl)
        have c9 : wr.cell? ⟨b, off + n * 12 + 9, none⟩ = some (.int .i64 M.ex) := (HB.out.cell (p := ⟨b, off + n * 12 + 9, none⟩) hB).trans (hc n _ hx 9 _ rfl)
        have c10 : wr.cell? ⟨b, off + n * 12 + 10, none⟩ = some (.slice MA.ba.1 x6 MA.ba.2) := (HB.out.cell (p := ⟨b, off + n * 12 + 10, none⟩) hB).trans (by rw [← hx6]; exact hc n _ hx 10 _ rfl)
        have c11 : wr.cell? ⟨b, off + n * 12 + 11, none⟩ = some (.slice MA.od.1 x5 MA.od.2) := (HB.out.cell (p := ⟨b, off + n * 12 + 11, none⟩) hB).trans (by rw [← hx5]; exact hc n _ hx 11 _ rfl)
        have hmn := HR.out _ (List.mem_of_getElem? hx)
        have htk : (l.map Prod.fst).take (n + 1) = (l.map Prod.fst).take n ++ [M] := by rw [List.take_add_one, List.getElem?_map, hx]; rfl
        have HM2 : Hid (m + moN M = l.length + moS ((l.map Prod.fst).take (n + 1))) := Lib.hid (by rw [htk, moS_append, HM.out]; unfold moS moS; omega)
        obtain ⟨mb, hmb2⟩ : ∃ x, wr.heap.size = x := ⟨_, rfl⟩
        obtain ⟨wm, hwm⟩ : ∃ x, wr.alloc (.cells #[.int .i64 M.y, .int .i64 M.i, .int .i64 M.o, .slice MA.gr.1 x0 MA.gr.2, .slice MA.be.1 x1 MA.be.2, .slice MA.af.1 x2 MA.af.2, .slice MA.li.1 x3 MA.li.2, .slice MA.sc.1 x4 MA.sc.2, .int .i64 M.al, .int .i64 M.ex, .slice MA.ba.1 x6 MA.ba.2, .slice MA.od.1 x5 MA.od.2] 54) = x := ⟨_, rfl⟩
        have hkm : Bk mb 54 #[.int .i64 M.y, .int .i64 M.i, .int .i64 M.o, .slice MA.gr.1 x0 MA.gr.2, .slice MA.be.1 x1 MA.be.2, .slice MA.af.1 x2 MA.af.2, .slice MA.li.1 x3 MA.li.2, .slice MA.sc.1 x4 MA.sc.2, .int .i64 M.al, .int .i64 M.ex, .slice MA.ba.1 x6 MA.ba.2, .slice MA.od.1 x5 MA.od.2] wm := by rw [← hwm, ← hmb2]; exact Bk.new _ _ _
        have HBM : Hid (Below w.heap.size w wm) := Lib.hid (HB.out.trans (by rw [← hwm]; exact (bAlloc wr _).mono HB.out.size))
        have HWF := Lib.hid (And.intro hmb2 hwm)
        have d0 : wm.cell? ⟨mb, 0, none⟩ = some (.int .i64 M.y) := Bk.cell (hkm) 0
        have d1 : wm.cell? ⟨mb, 1, none⟩ = some (.int .i64 M.i) := Bk.cell (hkm) 1
        have d2 : wm.cell? ⟨mb, 2, none⟩ = some (.int .i64 M.o) := Bk.cell (hkm) 2
        have d3 : wm.cell? ⟨mb, 3, none⟩ = some (.slice MA.gr.1 x0 MA.gr.2) := Bk.cell (hkm) 3
        have d4 : wm.cell? ⟨mb, 4, none⟩ = some (.slice MA.be.1 x1 MA.be.2) := Bk.cell (hkm) 4
        have d5 : wm.cell? ⟨mb, 5, none⟩ = some (.slice MA.af.1 x2 MA.af.2) := Bk.cell (hkm) 5
        have d6 : wm.cell? ⟨mb, 6, none⟩ = some (.slice MA.li.1 x3 MA.li.2) := Bk.cell (hkm) 6
        have d7 : wm.cell? ⟨mb, 7, none⟩ = some (.slice MA.sc.1 x4 MA.sc.2) := Bk.cell (hkm) 7
        have d8 : wm.cell? ⟨mb, 8, none⟩ = some (.int .i64 M.al) := Bk.cell (hkm) 8
        have d9 : wm.cell? ⟨mb, 9, none⟩ = some (.int .i64 M.ex) := Bk.cell (hkm) 9
        have d10 : wm.cell? ⟨mb, 10, none⟩ = some (.slice MA.ba.1 x6 MA.ba.2) := Bk.cell (hkm) 10
        have d11 : wm.cell? ⟨mb, 11, none⟩ = some (.slice MA.od.1 x5 MA.od.2) := Bk.cell (hkm) 11
        have hsum : moN M = x0 + x1 + x2 + x3 + x4 + x5 + x6 := by unfold moN; rw [hx0, hx1, hx2, hx3, hx4, hx5, hx6]
        dsimp only at hmn
        rw [hsum] at hmn HM2
        clear hc hx htk hkm hmb2 hwm hB hsum hx0 hx1 hx2 hx3 hx4 hx5 hx6
        go_upto_region 6 with fail
        rw [HWF.out.1, HWF.out.2]
        clear HWF
        clear c0 c1 c2 c3 c4 c5 c6 c7 c8 c9 c10 c11
        go_wp2
        exact ⟨⟨n + 1, m + (x0 + x1 + x2 + x3 + x4 + x5 + x6), by omega, by omega, by go_num, by go_num, HM2.out, by omega, HBM⟩, by simp [intOf]; omega⟩
      · obtain rfl : n = 30 := by omega
        have HGG : Hid (G = (decide (500 < m) || decide (30 < l.length))) := Lib.hid (by
          rw [HGB.out]
          have h := HM.out
        
          rw [← h])
        by_cases hg : 500 < m
        · have t1 : decide ((500 : Int) < m) = true := decide_eq_true (by omega)
          have HGV : Hid (G = true) := Lib.hid (by rw [HGG.out, decide_eq_true hg]; rfl)
          clear hg
          go_wp2
          go_ret
          rw [HGV.out]
          exact ⟨rfl, HB.out⟩
        · have t1 : decide ((500 : Int) < m) = false := decide_eq_false (by omega)
          have t2 : decide ((30 : Int) < l.length) = true := decide_eq_true (by omega)
          have HGV : Hid (G = true) := Lib.hid (by rw [HGG.out, decide_eq_true (show 30 < l.length by omega)]; simp)
          clear hg
          go_wp2
          go_ret
          rw [HGV.out]
          exact ⟨rfl, HB.out⟩
    · obtain rfl : n = l.length := by omega
      have HGG : Hid (G = (decide (500 < m) || decide (30 < l.length))) := Lib.hid (by
        rw [HGB.out]
        have h := HM.out
        rw [show (l.map Prod.fst).take l.length = (l.map Prod.fst).take 30 by rw [List.take_of_length_le (by simp), List.take_of_length_le (by simp; omega)]] at h
        rw [← h])
      by_cases hg : 500 < m
      · have t1 : decide ((500 : Int) < m) = true := decide_eq_true (by omega)
        have HGV : Hid (G = true) := Lib.hid (by rw [HGG.out, decide_eq_true hg]; rfl)
        clear hg
        go_wp2
        go_ret
        rw [HGV.out]
        exact ⟨rfl, HB.out⟩
      · have t1 : decide ((500 : Int) < m) = false := decide_eq_false (by omega)
        have t2 : decide ((30 : Int) < l.length) = false := decide_eq_false (by omega)
        have HGV : Hid (G = false) := Lib.hid (by rw [HGG.out, decide_eq_false hg, decide_eq_false (show ¬ 30 < l.length by omega)]; rfl)
        clear hg
        go_wp2
        go_ret
        rw [HGV.out]
        exact ⟨rfl, HB.out⟩
end Go.Proofs.YtgepbkldgnjpfaaGreatDoor

/- year's laws: months that came in; what the laws need of slips (gen/mkyl4.py). -/
namespace Go.Proofs.YtgepbkldgnjpfaaGreatDoor
open Go.RowKit Go.Sort Go.BigFrame Go.Maps

/-- Months that came in. -/
structure MoIn (M : Mon) (S : MoA) (w : World) : Prop where
  gr : Sl encI 2 w w.heap.size S.gr.1 M.gr
  be : Sl encI 2 w w.heap.size S.be.1 M.be
  af : Sl encI 2 w w.heap.size S.af.1 M.af
  li : Sl encL 3 w w.heap.size S.li.1 M.li
  sc : Sl encH 4 w w.heap.size S.sc.1 M.sc
  ba : Sl Tx.encBand 2 w w.heap.size S.ba.1 M.ba
  od : Sl encO 6 w w.heap.size S.od.1 M.od
  ln : moN M ≤ 1407374883553280
  sz : (∀ x ∈ M.gr, x.1.size ≤ 9223372036854775807) ∧ (∀ x ∈ M.be, x.1.size ≤ 9223372036854775807) ∧ (∀ x ∈ M.af, x.1.size ≤ 9223372036854775807) ∧ (∀ x ∈ M.li, x.1.size ≤ 9223372036854775807) ∧ (∀ x ∈ M.sc, x.1.size ≤ 9223372036854775807) ∧ (∀ x ∈ M.od, x.co.size ≤ 9223372036854775807)
def InMo (w : World) (A : Option Addr) (l : List (Mon × MoA)) : Prop := Sl encMo 12 w w.heap.size A l ∧ ∀ p ∈ l, MoIn p.1 p.2 w
theorem moS_mem : ∀ {l : List Mon} {M : Mon}, M ∈ l → moN M ≤ moS l
  | x :: r, M, h => by
    show moN M ≤ moN x + moS r
    rcases List.mem_cons.1 h with rfl | h
    · omega
    · have := moS_mem h; omega
theorem great_no {l : List Mon} (h : greatB l = false) : l.length ≤ 30 ∧ ∀ M ∈ l, moN M ≤ 500 := by
  unfold greatB at h
  rw [Bool.or_eq_false_iff] at h
  have h1 := of_decide_eq_false h.1
  have h2 := of_decide_eq_false h.2
  refine ⟨by omega, fun M hM => ?_⟩
  rw [List.take_of_length_le (by omega)] at h1
  have := moS_mem hM
  omega
theorem InMo.ok {w : World} {A : Option Addr} {l : List (Mon × MoA)} (h : InMo w A l) (hg : greatB (l.map Prod.fst) = false) : SlMo w A l ∧ l.length ≤ 30 := by
  obtain ⟨h1, h2⟩ := great_no hg
  rw [List.length_map] at h1
  refine ⟨⟨h.1, fun p hp => ?_⟩, h1⟩
  have hm := h.2 p hp
  have hn := h2 p.1 (List.mem_map.2 ⟨p, hp, rfl⟩)
  unfold moN at hn
  exact ⟨hm.gr, hm.be, hm.af, hm.li, hm.sc, hm.ba, hm.od, ⟨by omega, by omega, by omega, by omega, by omega, by omega, by omega⟩, hm.sz⟩
theorem InMo.below {w w' : World} {A : Option Addr} {l : List (Mon × MoA)} (h : InMo w A l) (hb : Below w.heap.size w w') : InMo w' A l := ⟨h.1.below hb, fun p hp => ⟨(h.2 p hp).gr.below hb, (h.2 p hp).be.below hb, (h.2 p hp).af.below hb, (h.2 p hp).li.below hb, (h.2 p hp).sc.below hb, (h.2 p hp).ba.below hb, (h.2 p hp).od.below hb, (h.2 p hp).ln, (h.2 p hp).sz⟩⟩
theorem la_greatI (l : List (Mon × MoA)) (A : Option Addr) (cap : Nat) (w : World) (hl : l.length ≤ 140737488355328) (h : InMo w A l) :
    Calls Tryz.prog 9 #[.slice A l.length cap] w fun e w' => e = .returned (.bool (greatB (l.map Prod.fst))) ∧ Below w.heap.size w w' := la_great l A cap w hl (fun p hp => (h.2 p hp).ln) h.1
/-- Text, of a state whose maps are few. -/
theorem yr_TextB (S : Ste) (V : StA) (n : Nat) (w : World) (hS : StOk S V n w) (hn : n ≤ 1000000000) (hb : StB n S) (hT : TbP w) :
    Calls Tryz.prog 15 #[stV S V] w fun e w' => e = .returned (.string (txM S)) ∧ Below w.heap.size w w' := yr_Text S V n w hS hn hb.1 (tx_size hb hn hS.bd) hT
theorem OwnSl.kepT {B : Nat} {v : Value} {l : List (Slp × (Option Addr × Nat))} {w w' : World} {b : Nat} {y : Array Value} (h : OwnSl B v l w) (hb : Bk b 33 y w) (hk : Kep b b w w') : OwnSl B v l w' := ⟨h.1.kepT hb (by decide) hk, fun p hp => (h.2 p hp).kepT hb (by decide) hk⟩
theorem slpGo_ok448 {y i : Int} {l : List Li} (h : slpE y i l = 0) : l.length ≤ 448 := by
  unfold slpE at h
  split at h
  · cases h
  · split at h
    · cases h
    · omega
theorem step_len (S : Ste) (M : Mon) : (stepM S M).2.1.2.2.length ≤ 448 := by
  unfold stepM
  dsimp only
  split
  · exact Nat.zero_le _
  split
  · exact Nat.zero_le _
  split
  · exact Nat.zero_le _
  · rename_i h
    exact slpGo_ok448 (by simpa using h)
theorem resGo_len (S0 : Ste) : ∀ (l : List Mon) (now : Ste) (out : List Slp), (∀ x ∈ out, x.2.2.length ≤ 448) → ∀ x ∈ (resGo S0 now out l).1, x.2.2.length ≤ 448
  | [], now, out, h => h
  | m :: r, now, out, h => by
    unfold resGo
    split
    · intro x hx; cases hx
    · refine resGo_len S0 r _ _ fun x hx => ?_
      rcases List.mem_append.1 hx with hx | hx
      · exact h x hx
      · rw [List.mem_singleton] at hx
        subst hx
        exact step_len now m
end Go.Proofs.YtgepbkldgnjpfaaGreatDoor
