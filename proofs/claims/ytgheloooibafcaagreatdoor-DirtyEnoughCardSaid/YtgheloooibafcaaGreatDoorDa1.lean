import Derived.Test.YtgheloooibafcaaGreatDoorDy4
import Derived.Test.YtgheloooibafcaaGreatDoorDy5
import Derived.Test.YtgheloooibafcaaGreatDoorAwk
/- The example of layer 32: awake() is true. -/
namespace Go.Proofs.YtgheloooibafcaaGreatDoor
open Go.RowKit Go.Sort

def exS : Fa := ⟨0, 1, 2, 19792, 0, ⟨#[]⟩, 6000000, ⟨#[]⟩⟩
def exT : Fa := ⟨0, 0, 6, 19782, 0, ⟨#[]⟩, 0, ⟨#[]⟩⟩
theorem fitS : Fit exS := ⟨by decide, by decide, by decide, by decide, by decide, by decide, by decide, by decide⟩
theorem fitT : Fit exT := ⟨by decide, by decide, by decide, by decide, by decide, by decide, by decide, by decide⟩
theorem exAddS : addL [] exS = ([exS], 0) := by
  unfold addL
  rw [if_neg (by decide), show chkF exS = 0 by decide, if_neg (by decide), show placeI [] exS.id = -1 by decide, if_neg (by decide), show canE [] exS = 0 by decide, if_neg (by decide)]
  rfl
theorem exForce : forceL [exS] = [(1, exS)] := by
  show chosen notCancel [exS] 1 = _
  rw [chosen_succ (L := [exS]) (k := 0) (f := exS) _ rfl, chosen_zero]
  rw [if_neg (by decide), if_pos (by decide)]
  rfl
theorem exForce0 : forceL [] = [] := rfl
theorem exChS : changedL [] [exS] = [(1, exS)] := changed_told (L := []) Backs.nil (fun _ h => by cases h) fitS (by decide) (by decide)
theorem exSi1 : sinceL 1 (changedL [] [exS]) = (19792, true) := by rw [exChS]; rfl
theorem exSi2 : sinceL 2 (changedL [] [exS]) = (0, false) := by rw [exChS]; rfl
theorem exPer : dpL [] [exS] = [1] := by
  unfold dpL personsL
  rw [exForce, exForce0]
  show List.filter _ [1] = [1]
  rw [List.filter_cons, if_pos (by rw [exSi1])]
  rfl
theorem exFi : firstF exT = 19779 := by decide
/-- A slice of so many. -/
def Sp.len (n : Nat) : Sp := ⟨fun v _ => ∃ A c, v = .slice A n c, fun _ _ _ h _ => h⟩
set_option maxHeartbeats 4000000 in
set_option maxRecDepth 100000 in
theorem la_awake32 (w : World) (hT : Tb w) (hC : Tab w) : Calls Tryz.prog 15 #[] w fun e w' => e = .returned (.bool true) ∧ Below w.heap.size w w' := by
  have HT := Lib.hid hT
  have HTC := Lib.hid hC
  obtain ⟨sb, hsb⟩ : ∃ x, w.heap.size = x := ⟨_, rfl⟩
  obtain ⟨w2, hw2⟩ : ∃ x, w.alloc (.cells #[.slice none 0 0] 27) = x := ⟨_, rfl⟩
  have HK2 : Hid (Bk sb 27 #[.slice none 0 0] w2) := Lib.hid (by rw [← hw2, ← hsb]; exact Bk.new _ _ _)
  have HB2 : Hid (Below w.heap.size w w2) := Lib.hid (by rw [← hw2]; exact bAlloc _ _)
  have HADD : Hid (Calls Tryz.prog 27 #[.agg #[.slice none 0 0], .agg #[.int .u32 0, .int .u32 1, .int .i64 2, .int .i64 19792, .int .i64 0, .string ⟨#[]⟩, .int .i64 6000000, .string ⟨#[]⟩]] w2 fun e w' => (∃ A cap, e = .returned (.tuple #[.agg #[.slice A 1 cap], .int .i64 0]) ∧ 1 ≤ cap ∧ SlF w' A [exS]) ∧ Below w2.heap.size w2 w') := Lib.hid (by
    have h := st_Add [] none 0 exS w2 (by decide) (by decide) (fun h => absurd rfl h) fitS (HT.out.below HB2.out)
    unfold addR at h
    rw [exAddS] at h
    exact h)
  have HE2 := Lib.hid (And.intro hsb hw2)
  clear hsb hw2 hT hC
  go_enter Tryz.func15, Tryz.ntmps15
  go_upto_region 2 with fail
  rw [HE2.out.1, HE2.out.2]
  clear HE2
  have C2 : w2.cell? ⟨sb, 0, none⟩ = some (.slice none 0 0) := HK2.out.cell 0
  go_wp2_with fail
  refine HADD.out.mono ?_
  rintro e w3 ⟨⟨A, cap, rfl, hcap, hs3⟩, hb3⟩
  obtain ⟨tb, htb⟩ : ∃ x, w3.heap.size = x := ⟨_, rfl⟩
  obtain ⟨w4, hw4⟩ : ∃ x, w3.alloc (.cells #[.slice A 1 cap] 27) = x := ⟨_, rfl⟩
  have HB34 : Hid (Below w2.heap.size w2 w4) := Lib.hid (by rw [← hw4]; exact bTrans hb3 (bAlloc _ _))
  have HB4 : Hid (Below w.heap.size w w4) := Lib.hid (bTrans HB2.out HB34.out)
  have HLD : Hid (∀ W, Below w4.heap.size w4 W → W.cell? ⟨sb, 0, none⟩ = some (.slice none 0 0) ∧ W.cell? ⟨tb, 0, none⟩ = some (.slice A 1 cap)) := Lib.hid fun W hW => by
    have h1 : Bk sb 27 #[.slice none 0 0] w4 := (HB34.out.block sb HK2.out.lt).trans HK2.out
    have h2 : Bk tb 27 #[.slice A 1 cap] w4 := by rw [← hw4, ← htb]; exact Bk.new _ _ _
    exact ⟨bCell hW (h1.cell 0), bCell hW (h2.cell 0)⟩
  have hs4 : SlF w4 A [exS] := by rw [← hw4]; exact hs3.below (bAlloc _ _)
  have HAT0 : Hid (∀ W, Calls Tryz.prog 18 #[.agg #[.slice none 0 0], .int .i64 0] W fun e w' => e = .returned (.agg #[.slice none 0 0]) ∧ Below W.heap.size W w') := Lib.hid fun W => st_At [] none 0 0 W (by decide) (by decide)
  have HAT1 : Hid (∀ W, Calls Tryz.prog 18 #[.agg #[.slice A 1 cap], .int .i64 1] W fun e w' => e = .returned (.agg #[.slice A 1 1]) ∧ Below W.heap.size W w') := Lib.hid fun W => st_At [exS] A cap 1 W (by decide) hcap
  have fS : ∀ f ∈ [exS], Fit f := fun f hf => by rw [List.mem_singleton.1 hf]; exact fitS
  have HSI1 : Hid (∀ W, Below w4.heap.size w4 W → Calls Tryz.prog 22 #[.agg #[.slice none 0 0], .agg #[.slice A 1 1], .int .u32 1] W fun e w' => e = .returned (.tuple #[.int .i64 19792, .bool true]) ∧ Below W.heap.size W w') := Lib.hid fun W hW => by
    have h := dy_Since [] [exS] none A 0 1 1 W (by decide) (by decide) (fun h => absurd rfl h) (hs4.below hW) (fun _ h => by cases h) fS
    rw [exSi1] at h
    exact h
  have HSI2 : Hid (∀ W, Below w4.heap.size w4 W → Calls Tryz.prog 22 #[.agg #[.slice none 0 0], .agg #[.slice A 1 1], .int .u32 2] W fun e w' => e = .returned (.tuple #[.int .i64 0, .bool false]) ∧ Below W.heap.size W w') := Lib.hid fun W hW => by
    have h := dy_Since [] [exS] none A 0 1 2 W (by decide) (by decide) (fun h => absurd rfl h) (hs4.below hW) (fun _ h => by cases h) fS
    rw [exSi2] at h
    exact h
  have HPE : Hid (∀ W, Below w4.heap.size w4 W → Calls Tryz.prog 24 #[.agg #[.slice none 0 0], .agg #[.slice A 1 1]] W fun e w' => ∃ A' c', e = .returned (.slice A' 1 c') ∧ Below W.heap.size W w') := Lib.hid fun W hW => by
    refine (dy_Persons [] [exS] none A 0 1 W (by decide) (by decide) (fun h => absurd rfl h) (hs4.below hW) (fun _ h => by cases h) fS).mono ?_
    rintro e w' ⟨⟨v, he, ho⟩, hb⟩
    rw [exPer] at ho
    obtain ⟨A', c', rfl, _, _⟩ := slU_own ho
    exact ⟨A', c', he, hb⟩
  have HFI : Hid (∀ W, Calls Tryz.prog 28 #[.agg #[.int .u32 0, .int .u32 0, .int .i64 6, .int .i64 19782, .int .i64 0, .string ⟨#[]⟩, .int .i64 0, .string ⟨#[]⟩]] W fun e w' => e = .returned (.int .i64 19779) ∧ Below W.heap.size W w') := Lib.hid fun W => by
    have h := dy_First exT W fitT
    rw [exFi] at h
    exact h
  have HPR : Hid (∀ W, Below w4.heap.size w4 W → Calls Tryz.prog 45 #[.agg #[.int .i64 0, .int .i64 0, .int .i64 0], .int .i64 19792] W fun e w' => e = .returned (.tuple #[.agg #[.int .i64 2024, .int .i64 3, .int .i64 12, .int .i64 19783, .int .i64 19814, .int .i64 19813], .int .i64 0]) ∧ Below W.heap.size W w') := Lib.hid fun W hW => dy_Period0 W (HTC.out.below (bTrans HB4.out hW))
  have HE4 := Lib.hid (And.intro htb hw4)
  clear hb3 hs3 hcap htb hw4 C2 HADD hs4 fS
  go_upto_region 3 with fail
  rw [HE4.out.1, HE4.out.2]
  clear HE4
  go_cut [4, 5] from 17 to 24 (fun dv ov wx => dv = .int .i64 19792 ∧ ov = .bool true ∧ Hid (Below w4.heap.size w4 wx))
  case first =>
    refine wp_region_mk (SPS [(1, Sp.val (.pointer (some ⟨sb, 0, none⟩))), (2, Sp.val (.pointer (some ⟨tb, 0, none⟩))), (18, Sp.val (.agg #[.slice none 0 0])), (19, Sp.val (.agg #[.slice none 0 0])), (20, Sp.val (.agg #[.slice A 1 cap])), (21, Sp.val (.agg #[.slice A 1 1])), (22, Sp.val (.tuple #[.int .i64 19792, .bool true])), (23, Sp.val (.int .i64 19792)), (24, Sp.val (.bool true)), (17, Sp.val (.tuple #[.int .i64 19792, .bool true])), (4, Sp.val (.int .i64 19792)), (5, Sp.val (.bool true))]) [] [18, 19, 20, 21, 22, 17, 23, 24, 4, 5] rfl (by rfl) (by kernel_rfl) (SPS.st _) ?_ ?_ ?_ (by decide) (by rfl) ?_ (opsK_all ?_) ?_
    · exact nil_all
    · exact nil_all
    · exact nil_all
    · exact sps_start (cons_all rfl (cons_all rfl (nil_all)))
    · refine opsK_cons (by
       exact kind_n (opOk_load (p := ⟨sb, 0, none⟩) rfl rfl (.inl rfl) (by kernel_rfl) (fun _ _ h => h.get rfl) (fun W hW => by
          have c0 := (HLD.out W hW).1
          exact ⟨.agg #[.slice none 0 0], by go_simp, sps rfl rfl⟩)) (by decide)) ?_
      refine opsK_cons (by
       exact kind_n (opOk_callg (fun a => #[a.eval (.tmp 18), .int .i64 0]) rfl rfl (.inl rfl) (fun a => by simp only [List.map_toArray, List.map_cons, List.map_nil] <;> rfl) (fun args W => by go_simp) (fun a W hW hsp => by
          have e18 : a.eval (.tmp 18) = .agg #[.slice none 0 0] := (hsp 18 (by kernel_rfl)).get rfl
          simp only [e18]
          exact (HAT0.out W).mono fun e w' ⟨he, hb⟩ => ⟨_, he, hb, sps rfl rfl⟩)) (by decide)) ?_
      refine opsK_cons (by
       exact kind_n (opOk_load (p := ⟨tb, 0, none⟩) rfl rfl (.inl rfl) (by kernel_rfl) (fun _ _ h => h.get rfl) (fun W hW => by
          have c0 := (HLD.out W hW).2
          exact ⟨.agg #[.slice A 1 cap], by go_simp, sps rfl rfl⟩)) (by decide)) ?_
      refine opsK_cons (by
       exact kind_n (opOk_callg (fun a => #[a.eval (.tmp 20), .int .i64 1]) rfl rfl (.inl rfl) (fun a => by simp only [List.map_toArray, List.map_cons, List.map_nil] <;> rfl) (fun args W => by go_simp) (fun a W hW hsp => by
          have e20 : a.eval (.tmp 20) = .agg #[.slice A 1 cap] := (hsp 20 (by kernel_rfl)).get rfl
          simp only [e20]
          exact (HAT1.out W).mono fun e w' ⟨he, hb⟩ => ⟨_, he, hb, sps rfl rfl⟩)) (by decide)) ?_
      refine opsK_cons (by
       exact kind_n (opOk_callg (fun a => #[a.eval (.tmp 19), a.eval (.tmp 21), .int .u32 1]) rfl rfl (.inl rfl) (fun a => by simp only [List.map_toArray, List.map_cons, List.map_nil] <;> rfl) (fun args W => by go_simp) (fun a W hW hsp => by
          have e19 : a.eval (.tmp 19) = .agg #[.slice none 0 0] := (hsp 19 (by kernel_rfl)).get rfl
          have e21 : a.eval (.tmp 21) = .agg #[.slice A 1 1] := (hsp 21 (by kernel_rfl)).get rfl
          simp only [e19, e21]
          exact (HSI1.out W hW).mono fun e w' ⟨he, hb⟩ => ⟨_, he, hb, sps rfl rfl⟩)) (by decide)) ?_
      refine opsK_cons (by
       exact kind_n (opOk_move rfl rfl (.inl rfl) (by kernel_rfl) (fun _ _ h => sps rfl (h.get rfl))) (by decide)) ?_
      refine opsK_cons (by
       exact kind_n (opOk_run rfl (.inl rfl) (fun a W hW hsp => by
          have e17 : a.eval (.tmp 17) = .tuple #[.int .i64 19792, .bool true] := (hsp 17 (by kernel_rfl)).get rfl
          refine ⟨.int .i64 19792, ?_, sps rfl rfl⟩
          unfold execOp
          simp only [e17]
          go_simp)) (by decide)) ?_
      refine opsK_cons (by
       exact kind_n (opOk_run rfl (.inl rfl) (fun a W hW hsp => by
          have e17 : a.eval (.tmp 17) = .tuple #[.int .i64 19792, .bool true] := (hsp 17 (by kernel_rfl)).get rfl
          refine ⟨.bool true, ?_, sps rfl rfl⟩
          unfold execOp
          simp only [e17]
          go_simp)) (by decide)) ?_
      refine opsK_cons (by
       exact kind_n (opOk_assign rfl rfl (.inl rfl) (by kernel_rfl) (fun _ _ h => sps rfl (h.get rfl))) (by decide)) ?_
      refine opsK_cons (by
       exact kind_n (opOk_assign rfl rfl (.inl rfl) (by kernel_rfl) (fun _ _ h => sps rfl (h.get rfl))) (by decide)) ?_
      exact opsK_nil
    · intro vs W hb hsp _
      have z4 := (hsp 4).get rfl
      have z5 := (hsp 5).get rfl
      simp only [putAll]
      go_simp
      go_step
      go_meet
      exact ⟨z4, z5, Lib.hid hb⟩
  case rest =>
    obtain ⟨rfl, rfl, HX5⟩ := hcut
    obtain ⟨w5, rfl⟩ : ∃ x : World, x = wc := ⟨_, rfl⟩
    have HLD5 : Hid (∀ W, Below w5.heap.size w5 W → Below w4.heap.size w4 W) := Lib.hid fun W hW => bTrans HX5.out hW
    go_upto_region 4 with fail
    go_cut [6, 7] from 25 to 32 (fun dv ov wx => dv = .int .i64 0 ∧ ov = .bool false ∧ Hid (Below w4.heap.size w4 wx))
    case first =>
      refine wp_region_mk (SPS [(1, Sp.val (.pointer (some ⟨sb, 0, none⟩))), (2, Sp.val (.pointer (some ⟨tb, 0, none⟩))), (26, Sp.val (.agg #[.slice none 0 0])), (27, Sp.val (.agg #[.slice none 0 0])), (28, Sp.val (.agg #[.slice A 1 cap])), (29, Sp.val (.agg #[.slice A 1 1])), (30, Sp.val (.tuple #[.int .i64 0, .bool false])), (31, Sp.val (.int .i64 0)), (32, Sp.val (.bool false)), (25, Sp.val (.tuple #[.int .i64 0, .bool false])), (6, Sp.val (.int .i64 0)), (7, Sp.val (.bool false))]) [] [26, 27, 28, 29, 30, 25, 31, 32, 6, 7] rfl (by rfl) (by kernel_rfl) (SPS.st _) ?_ ?_ ?_ (by decide) (by rfl) ?_ (opsK_all ?_) ?_
      · exact nil_all
      · exact nil_all
      · exact nil_all
      · exact sps_start (cons_all rfl (cons_all rfl (nil_all)))
      · refine opsK_cons (by
         exact kind_n (opOk_load (p := ⟨sb, 0, none⟩) rfl rfl (.inl rfl) (by kernel_rfl) (fun _ _ h => h.get rfl) (fun W hW => by
            have c0 := (HLD.out W (HLD5.out W hW)).1
            exact ⟨.agg #[.slice none 0 0], by go_simp, sps rfl rfl⟩)) (by decide)) ?_
        refine opsK_cons (by
         exact kind_n (opOk_callg (fun a => #[a.eval (.tmp 26), .int .i64 0]) rfl rfl (.inl rfl) (fun a => by simp only [List.map_toArray, List.map_cons, List.map_nil] <;> rfl) (fun args W => by go_simp) (fun a W hW hsp => by
            have e26 : a.eval (.tmp 26) = .agg #[.slice none 0 0] := (hsp 26 (by kernel_rfl)).get rfl
            simp only [e26]
            exact (HAT0.out W).mono fun e w' ⟨he, hb⟩ => ⟨_, he, hb, sps rfl rfl⟩)) (by decide)) ?_
        refine opsK_cons (by
         exact kind_n (opOk_load (p := ⟨tb, 0, none⟩) rfl rfl (.inl rfl) (by kernel_rfl) (fun _ _ h => h.get rfl) (fun W hW => by
            have c0 := (HLD.out W (HLD5.out W hW)).2
            exact ⟨.agg #[.slice A 1 cap], by go_simp, sps rfl rfl⟩)) (by decide)) ?_
        refine opsK_cons (by
         exact kind_n (opOk_callg (fun a => #[a.eval (.tmp 28), .int .i64 1]) rfl rfl (.inl rfl) (fun a => by simp only [List.map_toArray, List.map_cons, List.map_nil] <;> rfl) (fun args W => by go_simp) (fun a W hW hsp => by
            have e28 : a.eval (.tmp 28) = .agg #[.slice A 1 cap] := (hsp 28 (by kernel_rfl)).get rfl
            simp only [e28]
            exact (HAT1.out W).mono fun e w' ⟨he, hb⟩ => ⟨_, he, hb, sps rfl rfl⟩)) (by decide)) ?_
        refine opsK_cons (by
         exact kind_n (opOk_callg (fun a => #[a.eval (.tmp 27), a.eval (.tmp 29), .int .u32 2]) rfl rfl (.inl rfl) (fun a => by simp only [List.map_toArray, List.map_cons, List.map_nil] <;> rfl) (fun args W => by go_simp) (fun a W hW hsp => by
            have e27 : a.eval (.tmp 27) = .agg #[.slice none 0 0] := (hsp 27 (by kernel_rfl)).get rfl
            have e29 : a.eval (.tmp 29) = .agg #[.slice A 1 1] := (hsp 29 (by kernel_rfl)).get rfl
            simp only [e27, e29]
            exact (HSI2.out W (HLD5.out W hW)).mono fun e w' ⟨he, hb⟩ => ⟨_, he, hb, sps rfl rfl⟩)) (by decide)) ?_
        refine opsK_cons (by
         exact kind_n (opOk_move rfl rfl (.inl rfl) (by kernel_rfl) (fun _ _ h => sps rfl (h.get rfl))) (by decide)) ?_
        refine opsK_cons (by
         exact kind_n (opOk_run rfl (.inl rfl) (fun a W hW hsp => by
            have e25 : a.eval (.tmp 25) = .tuple #[.int .i64 0, .bool false] := (hsp 25 (by kernel_rfl)).get rfl
            refine ⟨.int .i64 0, ?_, sps rfl rfl⟩
            unfold execOp
            simp only [e25]
            go_simp)) (by decide)) ?_
        refine opsK_cons (by
         exact kind_n (opOk_run rfl (.inl rfl) (fun a W hW hsp => by
            have e25 : a.eval (.tmp 25) = .tuple #[.int .i64 0, .bool false] := (hsp 25 (by kernel_rfl)).get rfl
            refine ⟨.bool false, ?_, sps rfl rfl⟩
            unfold execOp
            simp only [e25]
            go_simp)) (by decide)) ?_
        refine opsK_cons (by
         exact kind_n (opOk_assign rfl rfl (.inl rfl) (by kernel_rfl) (fun _ _ h => sps rfl (h.get rfl))) (by decide)) ?_
        refine opsK_cons (by
         exact kind_n (opOk_assign rfl rfl (.inl rfl) (by kernel_rfl) (fun _ _ h => sps rfl (h.get rfl))) (by decide)) ?_
        exact opsK_nil
      · intro vs W hb hsp _
        have z6 := (hsp 6).get rfl
        have z7 := (hsp 7).get rfl
        simp only [putAll]
        go_simp
        go_step
        go_meet
        exact ⟨z6, z7, Lib.hid (HLD5.out _ hb)⟩
    case rest =>
      obtain ⟨rfl, rfl, HX6⟩ := hcut
      obtain ⟨w6, rfl⟩ : ∃ x : World, x = wc := ⟨_, rfl⟩
      go_wp2_with fail
      refine (HPR.out _ HX6.out).mono ?_
      rintro e w7 ⟨rfl, hb7⟩
      obtain ⟨pb, hpb⟩ : ∃ x, w7.heap.size = x := ⟨_, rfl⟩
      obtain ⟨w8, hw8⟩ : ∃ x, w7.alloc (.cells #[.int .i64 2024, .int .i64 3, .int .i64 12, .int .i64 19783, .int .i64 19814, .int .i64 19813] 112) = x := ⟨_, rfl⟩
      have hp8 : Bk pb 112 #[.int .i64 2024, .int .i64 3, .int .i64 12, .int .i64 19783, .int .i64 19814, .int .i64 19813] w8 := by rw [← hw8, ← hpb]; exact Bk.new _ _ _
      have hb8 : Below w4.heap.size w4 w8 := by rw [← hw8]; exact bTrans (bTrans HX6.out hb7) (bAlloc _ _)
      have HX8 : Hid (∀ W, Below w8.heap.size w8 W → Below w4.heap.size w4 W) := Lib.hid fun W hW => bTrans hb8 hW
      have HLP : Hid (∀ W, Below w8.heap.size w8 W → W.cell? ⟨pb, 0, none⟩ = some (.int .i64 2024) ∧ W.cell? ⟨pb, 1, none⟩ = some (.int .i64 3)) := Lib.hid fun W hW => ⟨bCell hW (hp8.cell 0), bCell hW (hp8.cell 1)⟩
      have HE8 := Lib.hid (And.intro hpb hw8)
      clear hpb hw8 hp8 hb8 hb7 HPR
      go_upto_region 6 with fail
      rw [HE8.out.1, HE8.out.2]
      clear HE8
      go_cut [0] from 38 to 78 (fun q wx => q = .bool true ∧ Hid (Below w8.heap.size w8 wx))
      case first =>
        refine wp_region_mk (SPS [(1, Sp.val (.pointer (some ⟨sb, 0, none⟩))), (2, Sp.val (.pointer (some ⟨tb, 0, none⟩))), (3, Sp.val (.int .i64 0)), (4, Sp.val (.int .i64 19792)), (5, Sp.val (.bool true)), (7, Sp.val (.bool false)), (8, Sp.val (.pointer (some ⟨pb, 0, none⟩))), (9, Sp.val (.int .i64 0)), (49, Sp.val (.bool true)), (56, Sp.val (.pointer (some ⟨pb, 0, none⟩))), (57, Sp.val (.int .i64 2024)), (61, Sp.val (.pointer (some ⟨pb, 1, none⟩))), (62, Sp.val (.int .i64 3)), (66, Sp.val (.agg #[.int .u32 0, .int .u32 0, .int .i64 6, .int .i64 19782, .int .i64 0, .string ⟨#[]⟩, .int .i64 0, .string ⟨#[]⟩])), (67, Sp.val (.int .i64 19779)), (71, Sp.val (.agg #[.slice none 0 0])), (72, Sp.val (.agg #[.slice none 0 0])), (73, Sp.val (.agg #[.slice A 1 cap])), (74, Sp.val (.agg #[.slice A 1 1])), (75, Sp.len 1), (76, Sp.val (.int .i64 1)), (38, Sp.val (.int .i64 0)), (39, Sp.val (.bool true)), (40, Sp.val (.bool true)), (41, Sp.val (.int .i64 19792)), (42, Sp.val (.bool true)), (43, Sp.val (.bool true)), (44, Sp.val (.bool true)), (45, Sp.val (.bool true)), (46, Sp.val (.bool true)), (47, Sp.val (.bool true)), (48, Sp.val (.bool false)), (50, Sp.val (.bool true)), (51, Sp.val (.bool true)), (52, Sp.val (.int .i64 0)), (53, Sp.val (.bool true)), (54, Sp.val (.bool true)), (55, Sp.val (.bool true)), (58, Sp.val (.bool true)), (59, Sp.val (.bool true)), (60, Sp.val (.bool true)), (63, Sp.val (.bool true)), (64, Sp.val (.bool true)), (65, Sp.val (.bool true)), (68, Sp.val (.bool true)), (69, Sp.val (.bool true)), (70, Sp.val (.bool true)), (77, Sp.val (.bool true)), (78, Sp.val (.bool true)), (0, Sp.val (.bool true))]) [] [38, 39, 40, 41, 42, 43, 44, 45, 46, 47, 48, 49, 50, 51, 52, 53, 54, 55, 56, 57, 58, 59, 60, 61, 62, 63, 64, 65, 66, 67, 68, 69, 70, 71, 72, 73, 74, 75, 76, 77, 78, 0] rfl (by rfl) (by kernel_rfl) (SPS.st _) ?_ ?_ ?_ (by decide) (by rfl) ?_ (opsK_all ?_) ?_
        · exact nil_all
        · exact nil_all
        · exact nil_all
        · exact sps_start (cons_all rfl (cons_all rfl (cons_all rfl (cons_all rfl (cons_all rfl (cons_all rfl (cons_all rfl (cons_all rfl (nil_all)))))))))
        · refine opsK_cons (by
           exact kind_n (opOk_move rfl rfl (.inl rfl) (by kernel_rfl) (fun _ _ h => sps rfl (h.get rfl))) (by decide)) ?_
          refine opsK_cons (by
           exact kind_n (opOk_run rfl (.inl rfl) (fun a W hW hsp => by
              have e38 : a.eval (.tmp 38) = .int .i64 0 := (hsp 38 (by kernel_rfl)).get rfl
              refine ⟨.bool true, ?_, sps rfl rfl⟩
              unfold execOp
              simp only [e38]
              go_simp)) (by decide)) ?_
          refine opsK_cons (by
           exact kind_n (opOk_move rfl rfl (.inl rfl) (by kernel_rfl) (fun _ _ h => sps rfl (h.get rfl))) (by decide)) ?_
          refine opsK_cons (by
           exact kind_n (opOk_move rfl rfl (.inr ⟨2, 40, true, rfl, rfl, (by kernel_rfl), fun _ _ h => h.get rfl⟩) (by kernel_rfl) (fun _ _ h => sps rfl (h.get rfl))) (by decide)) ?_
          refine opsK_cons (by
           exact kind_n (opOk_run rfl (.inr ⟨2, 40, true, rfl, rfl, (by kernel_rfl), fun _ _ h => h.get rfl⟩) (fun a W hW hsp => by
              have e41 : a.eval (.tmp 41) = .int .i64 19792 := (hsp 41 (by kernel_rfl)).get rfl
              refine ⟨.bool true, ?_, sps rfl rfl⟩
              unfold execOp
              simp only [e41]
              go_simp)) (by decide)) ?_
          refine opsK_cons (by
           exact kind_n (opOk_run rfl (.inl rfl) (fun a W hW hsp => by
              have e40 : a.eval (.tmp 40) = .bool true := (hsp 40 (by kernel_rfl)).get rfl
              have e42 : a.eval (.tmp 42) = .bool true := (hsp 42 (by kernel_rfl)).get rfl
              refine ⟨.bool true, ?_, sps rfl rfl⟩
              unfold execOp
              simp only [e40, e42]
              go_simp)) (by decide)) ?_
          refine opsK_cons (by
           exact kind_n (opOk_move rfl rfl (.inl rfl) (by kernel_rfl) (fun _ _ h => sps rfl (h.get rfl))) (by decide)) ?_
          refine opsK_cons (by
           exact kind_n (opOk_move rfl rfl (.inr ⟨6, 44, true, rfl, rfl, (by kernel_rfl), fun _ _ h => h.get rfl⟩) (by kernel_rfl) (fun _ _ h => sps rfl (h.get rfl))) (by decide)) ?_
          refine opsK_cons (by
           exact kind_n (opOk_run rfl (.inl rfl) (fun a W hW hsp => by
              have e44 : a.eval (.tmp 44) = .bool true := (hsp 44 (by kernel_rfl)).get rfl
              have e45 : a.eval (.tmp 45) = .bool true := (hsp 45 (by kernel_rfl)).get rfl
              refine ⟨.bool true, ?_, sps rfl rfl⟩
              unfold execOp
              simp only [e44, e45]
              go_simp)) (by decide)) ?_
          refine opsK_cons (by
           exact kind_n (opOk_move rfl rfl (.inl rfl) (by kernel_rfl) (fun _ _ h => sps rfl (h.get rfl))) (by decide)) ?_
          refine opsK_cons (by
           exact kind_n (opOk_move rfl rfl (.inr ⟨9, 47, true, rfl, rfl, (by kernel_rfl), fun _ _ h => h.get rfl⟩) (by kernel_rfl) (fun _ _ h => sps rfl (h.get rfl))) (by decide)) ?_
          refine opsK_cons (by
           exact kind_n (opOk_run rfl (.inr ⟨9, 47, true, rfl, rfl, (by kernel_rfl), fun _ _ h => h.get rfl⟩) (fun a W hW hsp => by
              have e48 : a.eval (.tmp 48) = .bool false := (hsp 48 (by kernel_rfl)).get rfl
              refine ⟨.bool true, ?_, sps rfl rfl⟩
              unfold execOp
              simp only [e48]
              go_simp)) (by decide)) ?_
          refine opsK_cons (by
           exact kind_n (opOk_run rfl (.inl rfl) (fun a W hW hsp => by
              have e47 : a.eval (.tmp 47) = .bool true := (hsp 47 (by kernel_rfl)).get rfl
              have e49 : a.eval (.tmp 49) = .bool true := (hsp 49 (by kernel_rfl)).get rfl
              refine ⟨.bool true, ?_, sps rfl rfl⟩
              unfold execOp
              simp only [e47, e49]
              go_simp)) (by decide)) ?_
          refine opsK_cons (by
           exact kind_n (opOk_move rfl rfl (.inl rfl) (by kernel_rfl) (fun _ _ h => sps rfl (h.get rfl))) (by decide)) ?_
          refine opsK_cons (by
           exact kind_n (opOk_move rfl rfl (.inr ⟨13, 51, true, rfl, rfl, (by kernel_rfl), fun _ _ h => h.get rfl⟩) (by kernel_rfl) (fun _ _ h => sps rfl (h.get rfl))) (by decide)) ?_
          refine opsK_cons (by
           exact kind_n (opOk_run rfl (.inr ⟨13, 51, true, rfl, rfl, (by kernel_rfl), fun _ _ h => h.get rfl⟩) (fun a W hW hsp => by
              have e52 : a.eval (.tmp 52) = .int .i64 0 := (hsp 52 (by kernel_rfl)).get rfl
              refine ⟨.bool true, ?_, sps rfl rfl⟩
              unfold execOp
              simp only [e52]
              go_simp)) (by decide)) ?_
          refine opsK_cons (by
           exact kind_n (opOk_run rfl (.inl rfl) (fun a W hW hsp => by
              have e51 : a.eval (.tmp 51) = .bool true := (hsp 51 (by kernel_rfl)).get rfl
              have e53 : a.eval (.tmp 53) = .bool true := (hsp 53 (by kernel_rfl)).get rfl
              refine ⟨.bool true, ?_, sps rfl rfl⟩
              unfold execOp
              simp only [e51, e53]
              go_simp)) (by decide)) ?_
          refine opsK_cons (by
           exact kind_n (opOk_move rfl rfl (.inl rfl) (by kernel_rfl) (fun _ _ h => sps rfl (h.get rfl))) (by decide)) ?_
          refine opsK_cons (by
           exact kind_n (opOk_run rfl (.inr ⟨17, 55, true, rfl, rfl, (by kernel_rfl), fun _ _ h => h.get rfl⟩) (fun a W hW hsp => by
              have e8 : a.eval (.tmp 8) = .pointer (some ⟨pb, 0, none⟩) := (hsp 8 (by kernel_rfl)).get rfl
              refine ⟨.pointer (some ⟨pb, 0, none⟩), ?_, sps rfl rfl⟩
              unfold execOp
              simp only [e8]
              go_simp)) (by decide)) ?_
          refine opsK_cons (by
           exact kind_n (opOk_load (p := ⟨pb, 0, none⟩) rfl rfl (.inr ⟨17, 55, true, rfl, rfl, (by kernel_rfl), fun _ _ h => h.get rfl⟩) (by kernel_rfl) (fun _ _ h => h.get rfl) (fun W hW => by
              have c0 := (HLP.out W hW).1
              exact ⟨.int .i64 2024, by go_simp, sps rfl rfl⟩)) (by decide)) ?_
          refine opsK_cons (by
           exact kind_n (opOk_run rfl (.inr ⟨17, 55, true, rfl, rfl, (by kernel_rfl), fun _ _ h => h.get rfl⟩) (fun a W hW hsp => by
              have e57 : a.eval (.tmp 57) = .int .i64 2024 := (hsp 57 (by kernel_rfl)).get rfl
              refine ⟨.bool true, ?_, sps rfl rfl⟩
              unfold execOp
              simp only [e57]
              go_simp)) (by decide)) ?_
          refine opsK_cons (by
           exact kind_n (opOk_run rfl (.inl rfl) (fun a W hW hsp => by
              have e55 : a.eval (.tmp 55) = .bool true := (hsp 55 (by kernel_rfl)).get rfl
              have e58 : a.eval (.tmp 58) = .bool true := (hsp 58 (by kernel_rfl)).get rfl
              refine ⟨.bool true, ?_, sps rfl rfl⟩
              unfold execOp
              simp only [e55, e58]
              go_simp)) (by decide)) ?_
          refine opsK_cons (by
           exact kind_n (opOk_move rfl rfl (.inl rfl) (by kernel_rfl) (fun _ _ h => sps rfl (h.get rfl))) (by decide)) ?_
          refine opsK_cons (by
           exact kind_n (opOk_run rfl (.inr ⟨22, 60, true, rfl, rfl, (by kernel_rfl), fun _ _ h => h.get rfl⟩) (fun a W hW hsp => by
              have e8 : a.eval (.tmp 8) = .pointer (some ⟨pb, 0, none⟩) := (hsp 8 (by kernel_rfl)).get rfl
              refine ⟨.pointer (some ⟨pb, 1, none⟩), ?_, sps rfl rfl⟩
              unfold execOp
              simp only [e8]
              go_simp)) (by decide)) ?_
          refine opsK_cons (by
           exact kind_n (opOk_load (p := ⟨pb, 1, none⟩) rfl rfl (.inr ⟨22, 60, true, rfl, rfl, (by kernel_rfl), fun _ _ h => h.get rfl⟩) (by kernel_rfl) (fun _ _ h => h.get rfl) (fun W hW => by
              have c0 := (HLP.out W hW).2
              exact ⟨.int .i64 3, by go_simp, sps rfl rfl⟩)) (by decide)) ?_
          refine opsK_cons (by
           exact kind_n (opOk_run rfl (.inr ⟨22, 60, true, rfl, rfl, (by kernel_rfl), fun _ _ h => h.get rfl⟩) (fun a W hW hsp => by
              have e62 : a.eval (.tmp 62) = .int .i64 3 := (hsp 62 (by kernel_rfl)).get rfl
              refine ⟨.bool true, ?_, sps rfl rfl⟩
              unfold execOp
              simp only [e62]
              go_simp)) (by decide)) ?_
          refine opsK_cons (by
           exact kind_n (opOk_run rfl (.inl rfl) (fun a W hW hsp => by
              have e60 : a.eval (.tmp 60) = .bool true := (hsp 60 (by kernel_rfl)).get rfl
              have e63 : a.eval (.tmp 63) = .bool true := (hsp 63 (by kernel_rfl)).get rfl
              refine ⟨.bool true, ?_, sps rfl rfl⟩
              unfold execOp
              simp only [e60, e63]
              go_simp)) (by decide)) ?_
          refine opsK_cons (by
           exact kind_n (opOk_move rfl rfl (.inl rfl) (by kernel_rfl) (fun _ _ h => sps rfl (h.get rfl))) (by decide)) ?_
          refine opsK_cons (by
           exact kind_n (opOk_run rfl (.inr ⟨27, 65, true, rfl, rfl, (by kernel_rfl), fun _ _ h => h.get rfl⟩) (fun a W hW hsp => by
              refine ⟨.agg #[.int .u32 0, .int .u32 0, .int .i64 6, .int .i64 19782, .int .i64 0, .string ⟨#[]⟩, .int .i64 0, .string ⟨#[]⟩], ?_, sps rfl rfl⟩
              unfold execOp
              go_simp)) (by decide)) ?_
          refine opsK_cons (by
           exact kind_n (opOk_callg (fun a => #[a.eval (.tmp 66)]) rfl rfl (.inr ⟨27, 65, true, rfl, rfl, (by kernel_rfl), fun _ _ h => h.get rfl⟩) (fun a => by simp only [List.map_toArray, List.map_cons, List.map_nil] <;> rfl) (fun args W => by go_simp) (fun a W hW hsp => by
              have e66 : a.eval (.tmp 66) = .agg #[.int .u32 0, .int .u32 0, .int .i64 6, .int .i64 19782, .int .i64 0, .string ⟨#[]⟩, .int .i64 0, .string ⟨#[]⟩] := (hsp 66 (by kernel_rfl)).get rfl
              simp only [e66]
              exact (HFI.out W).mono fun e w' ⟨he, hb⟩ => ⟨_, he, hb, sps rfl rfl⟩)) (by decide)) ?_
          refine opsK_cons (by
           exact kind_n (opOk_run rfl (.inr ⟨27, 65, true, rfl, rfl, (by kernel_rfl), fun _ _ h => h.get rfl⟩) (fun a W hW hsp => by
              have e67 : a.eval (.tmp 67) = .int .i64 19779 := (hsp 67 (by kernel_rfl)).get rfl
              refine ⟨.bool true, ?_, sps rfl rfl⟩
              unfold execOp
              simp only [e67]
              go_simp)) (by decide)) ?_
          refine opsK_cons (by
           exact kind_n (opOk_run rfl (.inl rfl) (fun a W hW hsp => by
              have e65 : a.eval (.tmp 65) = .bool true := (hsp 65 (by kernel_rfl)).get rfl
              have e68 : a.eval (.tmp 68) = .bool true := (hsp 68 (by kernel_rfl)).get rfl
              refine ⟨.bool true, ?_, sps rfl rfl⟩
              unfold execOp
              simp only [e65, e68]
              go_simp)) (by decide)) ?_
          refine opsK_cons (by
           exact kind_n (opOk_move rfl rfl (.inl rfl) (by kernel_rfl) (fun _ _ h => sps rfl (h.get rfl))) (by decide)) ?_
          refine opsK_cons (by
           exact kind_n (opOk_load (p := ⟨sb, 0, none⟩) rfl rfl (.inr ⟨32, 70, true, rfl, rfl, (by kernel_rfl), fun _ _ h => h.get rfl⟩) (by kernel_rfl) (fun _ _ h => h.get rfl) (fun W hW => by
              have c0 := (HLD.out W (HX8.out W hW)).1
              exact ⟨.agg #[.slice none 0 0], by go_simp, sps rfl rfl⟩)) (by decide)) ?_
          refine opsK_cons (by
           exact kind_n (opOk_callg (fun a => #[a.eval (.tmp 71), .int .i64 0]) rfl rfl (.inr ⟨32, 70, true, rfl, rfl, (by kernel_rfl), fun _ _ h => h.get rfl⟩) (fun a => by simp only [List.map_toArray, List.map_cons, List.map_nil] <;> rfl) (fun args W => by go_simp) (fun a W hW hsp => by
              have e71 : a.eval (.tmp 71) = .agg #[.slice none 0 0] := (hsp 71 (by kernel_rfl)).get rfl
              simp only [e71]
              exact (HAT0.out W).mono fun e w' ⟨he, hb⟩ => ⟨_, he, hb, sps rfl rfl⟩)) (by decide)) ?_
          refine opsK_cons (by
           exact kind_n (opOk_load (p := ⟨tb, 0, none⟩) rfl rfl (.inr ⟨32, 70, true, rfl, rfl, (by kernel_rfl), fun _ _ h => h.get rfl⟩) (by kernel_rfl) (fun _ _ h => h.get rfl) (fun W hW => by
              have c0 := (HLD.out W (HX8.out W hW)).2
              exact ⟨.agg #[.slice A 1 cap], by go_simp, sps rfl rfl⟩)) (by decide)) ?_
          refine opsK_cons (by
           exact kind_n (opOk_callg (fun a => #[a.eval (.tmp 73), .int .i64 1]) rfl rfl (.inr ⟨32, 70, true, rfl, rfl, (by kernel_rfl), fun _ _ h => h.get rfl⟩) (fun a => by simp only [List.map_toArray, List.map_cons, List.map_nil] <;> rfl) (fun args W => by go_simp) (fun a W hW hsp => by
              have e73 : a.eval (.tmp 73) = .agg #[.slice A 1 cap] := (hsp 73 (by kernel_rfl)).get rfl
              simp only [e73]
              exact (HAT1.out W).mono fun e w' ⟨he, hb⟩ => ⟨_, he, hb, sps rfl rfl⟩)) (by decide)) ?_
          refine opsK_cons (by
           exact kind_n (opOk_callg (fun a => #[a.eval (.tmp 72), a.eval (.tmp 74)]) rfl rfl (.inr ⟨32, 70, true, rfl, rfl, (by kernel_rfl), fun _ _ h => h.get rfl⟩) (fun a => by simp only [List.map_toArray, List.map_cons, List.map_nil] <;> rfl) (fun args W => by go_simp) (fun a W hW hsp => by
              have e72 : a.eval (.tmp 72) = .agg #[.slice none 0 0] := (hsp 72 (by kernel_rfl)).get rfl
              have e74 : a.eval (.tmp 74) = .agg #[.slice A 1 1] := (hsp 74 (by kernel_rfl)).get rfl
              simp only [e72, e74]
              exact (HPE.out W (HX8.out W hW)).mono fun e w' ⟨A', c', he, hb⟩ => ⟨_, he, hb, sps rfl ⟨A', c', rfl⟩⟩)) (by decide)) ?_
          refine opsK_cons (by
           exact kind_n (opOk_run rfl (.inr ⟨32, 70, true, rfl, rfl, (by kernel_rfl), fun _ _ h => h.get rfl⟩) (fun a W hW hsp => by
              obtain ⟨A75, c75, hv⟩ := (hsp 75 (by kernel_rfl)).get rfl
              have e75 : a.eval (.tmp 75) = .slice A75 1 c75 := hv
              refine ⟨.int .i64 1, ?_, sps rfl rfl⟩
              unfold execOp
              go_simp)) (by decide)) ?_
          refine opsK_cons (by
           exact kind_n (opOk_run rfl (.inr ⟨32, 70, true, rfl, rfl, (by kernel_rfl), fun _ _ h => h.get rfl⟩) (fun a W hW hsp => by
              have e76 : a.eval (.tmp 76) = .int .i64 1 := (hsp 76 (by kernel_rfl)).get rfl
              refine ⟨.bool true, ?_, sps rfl rfl⟩
              unfold execOp
              simp only [e76]
              go_simp)) (by decide)) ?_
          refine opsK_cons (by
           exact kind_n (opOk_run rfl (.inl rfl) (fun a W hW hsp => by
              have e70 : a.eval (.tmp 70) = .bool true := (hsp 70 (by kernel_rfl)).get rfl
              have e77 : a.eval (.tmp 77) = .bool true := (hsp 77 (by kernel_rfl)).get rfl
              refine ⟨.bool true, ?_, sps rfl rfl⟩
              unfold execOp
              simp only [e70, e77]
              go_simp)) (by decide)) ?_
          refine opsK_cons (by
           exact kind_n (opOk_assign rfl rfl (.inl rfl) (by kernel_rfl) (fun _ _ h => sps rfl (h.get rfl))) (by decide)) ?_
          exact opsK_nil
        · intro vs W hb hsp _
          have z0 := (hsp 0).get rfl
          simp only [putAll]
          go_simp
          go_step
          go_meet
          exact ⟨z0, Lib.hid hb⟩
      case rest =>
        obtain ⟨rfl, HX9⟩ := hcut
        go_wp2
        go_ret
        exact ⟨rfl, bTrans HB4.out (HX8.out _ HX9.out)⟩
end Go.Proofs.YtgheloooibafcaaGreatDoor
