import Derived.Test.YtlgoaohklggcdaaGreatDoorAbq
import Derived.Test.YtlgoaohklggcdaaGreatDoorOp9
import Derived.Test.YtlgoaohklggcdaaGreatDoorAbj
import Derived.BigQuiet
/- law18.AbsentTells. Printed by gen/mkabr.py. -/
namespace Go.Proofs.YtlgoaohklggcdaaGreatDoor
open Go.RowKit Go.Sort

def spAz (Z : List Ab) (en : Int) : Sp := ⟨fun v w => ∃ A c, v = .tuple #[.slice A Z.length c, .int .i64 en] ∧ Sl encAb 5 w w.heap.size A Z, fun _ _ _ ⟨A, c, h1, h2⟩ hb => ⟨A, c, h1, sl_bel h2 hb⟩⟩
theorem few_fit {l : List Fa} (fl : ∀ f ∈ l, FitW f) (h : ∀ f ∈ l, f.ki ≠ 18 ∧ f.co.size ≤ 300 ∧ f.tx.size ≤ 300) : ∀ f ∈ l, Fit f := fun f hf => by
  have h1 := fl f hf
  have h2 := h f hf
  exact ⟨h1.id, h1.pe, h1.ki, h1.fr, h1.tO, h1.nu, by omega, by omega⟩
theorem told_le (l : List Fa) : (tellL [] l).length ≤ l.length := by
  have h := tellL_len l []
  simpa using h
theorem absX_le (X : List Kn) (F U : Int) (h : X.length ≤ 4096) : (absX X F U).length ≤ 10001 := by
  unfold absX strQ
  rw [List.length_map]
  exact Nat.le_trans (List.length_filter_le _ _) (strL_len F U h)
theorem bShift {P : World → Prop} {w0 w1 : World} (h : ∀ W, Below w0.heap.size w0 W → P W) (hb : Below w0.heap.size w0 w1) : ∀ W, Below w1.heap.size w1 W → P W := fun W hW => h W (bTrans hb hW)
/-- Does a span leave the calendar? -/
def outB (F U : Int) : Bool := decide (F < U) && (decide (F < -25567) || decide (84006 < U))
theorem out_with (F U : Int) : withB F U = !outB F U := by
  unfold withB calB outB
  by_cases h : F < U
  · rw [decide_eq_false (p := U ≤ F) (by omega), decide_eq_true h]
    by_cases h1 : F < -25567
    · rw [decide_eq_false (p := -25567 ≤ F) (by omega), decide_eq_true h1]; rfl
    · by_cases h2 : 84006 < U
      · rw [decide_eq_false (p := U - 1 ≤ 84005) (by omega), decide_eq_true h2]; simp
      · rw [decide_eq_true (p := -25567 ≤ F) (by omega), decide_eq_true (p := F ≤ 84005) (by omega), decide_eq_true (p := -25567 ≤ U - 1) (by omega), decide_eq_true (p := U - 1 ≤ 84005) (by omega), decide_eq_false h1, decide_eq_false h2]; rfl
  · rw [decide_eq_true (p := U ≤ F) (by omega), decide_eq_false h]; rfl
def outZ (X : List Kn) (F U : Int) : List Ab := if outB F U = true then [] else absX X F U
def outE (F U : Int) : Int := if outB F U = true then 24 else 0
theorem ki_cases (co : ByteArray) : (kiB co = (0, true) ∧ kiN co = 0) ∨ (kiB co = (1, true) ∧ kiN co = 1) ∨ (kiB co = (2, true) ∧ kiN co = 2) ∨ (kiB co = (3, true) ∧ kiN co = 3) ∨ (kiB co = (0, false) ∧ kiN co = -1) := by
  have h : kiB co = (0, true) ∨ kiB co = (1, true) ∨ kiB co = (2, true) ∨ kiB co = (3, true) ∨ kiB co = (0, false) := by
    unfold kiB
    split
    · exact .inl rfl
    · split
      · exact .inr (.inl rfl)
      · split
        · exact .inr (.inr (.inl rfl))
        · split
          · exact .inr (.inr (.inr (.inl rfl)))
          · exact .inr (.inr (.inr (.inr rfl)))
  unfold kiN
  rcases h with h | h | h | h | h <;> rw [h] <;> simp
theorem eqAb (xf xt xk xp xn : Int) (w : World) : (binOp .neq 90 (.agg #[.int .i64 xf, .int .i64 xt, .int .i64 xk, .int .i64 xp, .int .i64 xn]) (.agg #[.int .i64 xf, .int .i64 xt, .int .i64 xk, .int .i64 xp, .int .i64 xn])).run Tryz.prog w = .ok (.bool false) w := by
  go_simp
set_option maxHeartbeats 8000000 in
set_option maxRecDepth 100000 in
theorem lw_AbsentTells (l : List Fa) (A : Option Addr) (ca : Nat) (pe : Int) (F U : Int) (co : ByteArray) (w : World) (hl : l.length ≤ 9223372036854775807) (fl : ∀ f ∈ l, FitW f) (hL : SlF w A l) (hF : -9223372036854775808 ≤ F ∧ F ≤ 9223372036854775807) (hU : -9223372036854775808 ≤ U ∧ U ≤ 9223372036854775807) (hT : Tb w) (hC : Tab w) :
    Calls Tryz.prog 12 #[.slice A l.length ca, .int .u32 pe, .agg #[.int .i64 F, .int .i64 U], .string co] w fun e w' => e = .returned (.bool true) ∧ Below w.heap.size w w' := by
  have HAW : Hid (∀ W, Below w.heap.size w W → Calls Tryz.prog 32 #[] W fun e w' => e = .returned (.bool true) ∧ Below W.heap.size W w') := Lib.hid fun W hW => la_awake18 W (hT.below hW) (tabW hC hW)
  obtain ⟨sb, hsb⟩ : ∃ z, w.heap.size = z := ⟨_, rfl⟩
  obtain ⟨w2, hw2⟩ : ∃ z, w.alloc (.cells #[.int .i64 F, .int .i64 U] 31) = z := ⟨_, rfl⟩
  have k2 : Bk sb 31 #[.int .i64 F, .int .i64 U] w2 := by rw [← hw2, ← hsb]; exact Bk.new _ _ _
  have hb2 : Below w.heap.size w w2 := by rw [← hw2]; exact bAlloc _ _
  have HB2 := Lib.hid hb2
  have HKC : Hid (∀ W, Below w2.heap.size w2 W → W.cell? ⟨sb, 0, none⟩ = some (.int .i64 F) ∧ W.cell? ⟨sb, 1, none⟩ = some (.int .i64 U)) := Lib.hid fun W hW => ⟨bCell hW (k2.cell 0), bCell hW (k2.cell 1)⟩
  have HFE := Lib.hid (la_few l A ca w2 hl (hL.below hb2))
  have HLO := Lib.hid (fun W => la_long F U 500 W hF hU (by omega))
  have HTD : Hid ((∀ f ∈ l, Fit f) → l.length ≤ 30 → ∀ W, Below w2.heap.size w2 W → Calls Tryz.prog 37 #[.slice A l.length ca, .int .u32 pe] W (TolR l pe W)) := Lib.hid fun hf h30 W hW => la_told18 l A ca pe W (by omega) hf (hL.below (bTrans hb2 hW)) ((hT.below hb2).below hW)
  have HFI : Hid (∀ (h : ∀ f ∈ l, f.ki ≠ 18 ∧ f.co.size ≤ 300 ∧ f.tx.size ≤ 300), ∀ f ∈ l, Fit f) := Lib.hid fun h => few_fit fl h
  have HE := Lib.hid (And.intro hsb hw2)
  clear hsb hw2 k2 hb2 hT hC hL fl
  go_enter Tryz.func12, Tryz.ntmps12
  go_upto_region 1 with fail
  rw [HE.out.1, HE.out.2]
  clear HE
  go_wp2_with fail
  refine HFE.out.mono ?_
  rintro e w3 ⟨fw, rfl, hfw, hb3⟩
  have HB3 := Lib.hid hb3
  have HFW := Lib.hid hfw
  clear hb3 hfw HFE
  cases fw with
  | false =>
    go_wp2_with fail
    refine (HAW.out _ (bTrans HB2.out HB3.out)).mono ?_
    rintro e w4 ⟨rfl, hb4⟩
    have HF := Lib.hid (bTrans HB2.out (bTrans HB3.out hb4))
    clear hb4
    go_wp2
    go_ret
    exact ⟨rfl, HF.out⟩
  | true =>
    have HFW1 := Lib.hid (HFW.out rfl)
    obtain ⟨S0, S1⟩ := HKC.out _ HB3.out
    have HLO3 := Lib.hid (HLO.out w3)
    clear HFW HLO
    go_wp2_with fail
    refine HLO3.out.mono ?_
    rintro e w4 ⟨lb, rfl, hlb, hb4⟩
    have HB4 := Lib.hid (bTrans HB3.out hb4)
    have HLB := Lib.hid hlb
    clear hb4 hlb HLO3 S0 S1
    cases lb with
    | true =>
      go_wp2_with fail
      refine (HAW.out _ (bTrans HB2.out HB4.out)).mono ?_
      rintro e w5 ⟨rfl, hb5⟩
      have HF := Lib.hid (bTrans HB2.out (bTrans HB4.out hb5))
      clear hb5
      go_wp2
      go_ret
      exact ⟨rfl, HF.out⟩
    | false =>
    have HFU := Lib.hid (HLB.out rfl)
    have HTD4 := Lib.hid (HTD.out (HFI.out HFW1.out.1) HFW1.out.2 _ HB4.out)
    obtain ⟨T, hTT⟩ : ∃ T, tellL [] l = T := ⟨_, rfl⟩
    have hTl : T.length ≤ 30 := by rw [← hTT]; exact Nat.le_trans (told_le l) HFW1.out.2
    have HLAW : Hid ((rfN (toMs pe T) F (U - F).toNat).1 = absX (kA T pe) F U) := Lib.hid (tells_law (by rw [← hTT]; exact tellL_all (p := fun f => f.ki ≠ 18) (by simp) (fun f hf => (HFW1.out.1 f hf).1)) (by rw [← hTT]; exact tell_chkA l [] (by simp)))
    have HTE := Lib.hid hTT
    clear HLB HTD HFI hTT
    go_wp2_with fail
    refine HTD4.out.mono ?_
    rintro e w5 ⟨⟨A2, c2, Am, cm, rfl, hc2, hs5, hm5⟩, hb5⟩
    rw [HTE.out] at hc2 hs5 hm5 ⊢
    obtain ⟨M, hM⟩ : ∃ M, toMs pe T = M := ⟨_, rfl⟩
    have hMl : M.length ≤ 1000000 := by
      rw [← hM]
      have h1 : (toMs pe T).length ≤ T.length := by
        unfold toMs
        refine Nat.le_trans (List.length_filterMap_le _ _) ?_
        rw [List.length_range]
        exact Nat.le_refl _
      omega
    rw [hM] at hm5 HLAW ⊢
    obtain ⟨tb, htb⟩ : ∃ z, w5.heap.size = z := ⟨_, rfl⟩
    obtain ⟨w6, hw6⟩ : ∃ z, w5.alloc (.cells #[.slice A2 T.length c2] 96) = z := ⟨_, rfl⟩
    have hb56 : Below w5.heap.size w5 w6 := by rw [← hw6]; exact bAlloc _ _
    have HK6 : Hid (Bk tb 96 #[.slice A2 T.length c2] w6) := Lib.hid (by rw [← hw6, ← htb]; exact Bk.new _ _ _)
    have HB6 : Hid (Below w2.heap.size w2 w6) := Lib.hid (bTrans HB4.out (bTrans hb5 hb56))
    have HC4 : Hid (∀ W, Below w6.heap.size w6 W → W.cell? ⟨tb, 0, none⟩ = some (.slice A2 T.length c2) ∧ W.cell? ⟨sb, 0, none⟩ = some (.int .i64 F) ∧ W.cell? ⟨sb, 1, none⟩ = some (.int .i64 U)) := Lib.hid fun W hW => ⟨bCell hW (HK6.out.cell 0), HKC.out W (bTrans HB6.out hW)⟩
    have HAT : Hid (∀ W, Calls Tryz.prog 40 #[.agg #[.slice A2 T.length c2], .int .i64 T.length] W fun e w' => e = .returned (.agg #[.slice A2 T.length T.length]) ∧ Below W.heap.size W w') := Lib.hid fun W => by
      have h := st_At T A2 c2 T.length W (by omega) hc2
      have e : atN T (T.length : Int) = T.length := by unfold atN; simp
      rwa [e] at h
    have HRF : Hid (∀ W, Below w6.heap.size w6 W → Calls Tryz.prog 45 #[.slice Am M.length cm, .agg #[.int .i64 F, .int .i64 U]] W (Of18 M F U W)) := Lib.hid fun W hW => r18_Of M Am cm F U W hMl (sl_bel hm5 (bTrans hb56 hW)) (by have := HFU.out; omega) ⟨hU.1, by have := HFU.out; omega⟩ (by have := HFU.out; omega)
    obtain ⟨Z, hZ⟩ : ∃ Z, outZ (kA T pe) F U = Z := ⟨_, rfl⟩
    obtain ⟨en, hen⟩ : ∃ en, outE F U = en := ⟨_, rfl⟩
    have hkl : (kA T pe).length ≤ 4096 := Nat.le_trans (chosen_len _ _ _) (by omega)
    have hZl : Z.length ≤ 10001 := by
      rw [← hZ]
      unfold outZ
      split
      · simp
      · exact absX_le _ _ _ hkl
    have HOF : Hid (∀ W, Below w6.heap.size w6 W → Calls Tryz.prog 39 #[.agg #[.slice A2 T.length T.length], .int .u32 pe, .agg #[.int .i64 F, .int .i64 U]] W fun e w' => (∃ A c, e = .returned (.tuple #[.slice A Z.length c, .int .i64 en]) ∧ Sl encAb 5 w' w'.heap.size A Z) ∧ Below W.heap.size W w') := Lib.hid fun W hW => by
      have h := ab_Of T A2 T.length pe F U W (by omega) (hs5.below (bTrans hb56 hW)) hF hU
      refine h.mono fun e w' ⟨h1, h2⟩ => ⟨?_, h2⟩
      rw [← hZ, ← hen]
      unfold outZ outE
      cases hob : outB F U with
      | true =>
        rw [out_with, hob, if_neg (by simp)] at h1
        rw [if_pos rfl, if_pos rfl]
        exact ⟨none, 0, h1, fun h => absurd rfl h⟩
      | false =>
        rw [out_with, hob, if_pos (by simp)] at h1
        rw [if_neg (by simp), if_neg (by simp)]
        obtain ⟨A', c', he, ho⟩ := h1
        obtain ⟨A3, c3, e3, _, h4⟩ := own_sl encAb_len ho
        injection e3 with e3 _ _
        rw [← e3] at h4
        exact ⟨A', c', he, h4⟩
    have HZE := Lib.hid (And.intro hZ hen)
    have HE := Lib.hid (And.intro htb hw6)
    clear htb hw6 hb5 hb56 hs5 hm5 hc2 HTD4 hkl HTE hM hZ hen hMl
    go_upto_region 4 with fail
    rw [HE.out.1, HE.out.2]
    clear HE
    go_cut [11, 12] from 32 to 41 (fun lv ev wx => (∃ Az cz, lv = .slice Az Z.length cz ∧ Hid (Sl encAb 5 wx wx.heap.size Az Z)) ∧ ev = .int .i64 en ∧ Hid (Below w6.heap.size w6 wx))
    case first =>
      refine wp_region_use (SPS [(9, Sp.val (.pointer (some ⟨tb, 0, none⟩))), (6, Sp.val (.pointer (some ⟨sb, 0, none⟩))), (1, Sp.val (.int .u32 pe)), (33, Sp.val (.agg #[.slice A2 T.length c2])), (34, Sp.val (.agg #[.slice A2 T.length c2])), (35, Sp.val (.int .i64 T.length)), (36, Sp.val (.agg #[.slice A2 T.length T.length])), (37, Sp.val (.int .u32 pe)), (38, Sp.val (.agg #[.int .i64 F, .int .i64 U])), (39, (spAz Z en)), (32, (spAz Z en)), (40, (spSl encAb 5 Z)), (41, Sp.val (.int .i64 en)), (11, (spSl encAb 5 Z)), (12, Sp.val (.int .i64 en))]) [] [33, 34, 35, 36, 37, 38, 39, 32, 40, 41, 11, 12] rfl (by rfl) (by kernel_rfl) (SPS.st _) (by rfl) ?_ (opsK_all ?_) ?_
      · exact sps_start (cons_all rfl (cons_all rfl (cons_all rfl (nil_all))))
      · refine opsK_cons (by
         exact use_s [] (opOk_load (p := ⟨tb, 0, none⟩) rfl rfl (.inl rfl) (by kernel_rfl) (fun _ _ h => h.get rfl) (fun W hW => by
            obtain ⟨k0, k1, k2⟩ := HC4.out _ hW
            exact ⟨.agg #[.slice A2 T.length c2], by go_simp, sps rfl rfl⟩)) (by kernel_rfl) (by rfl)) ?_
        refine opsK_cons (by
         exact use_s [] (opOk_load (p := ⟨tb, 0, none⟩) rfl rfl (.inl rfl) (by kernel_rfl) (fun _ _ h => h.get rfl) (fun W hW => by
            obtain ⟨k0, k1, k2⟩ := HC4.out _ hW
            exact ⟨.agg #[.slice A2 T.length c2], by go_simp, sps rfl rfl⟩)) (by kernel_rfl) (by rfl)) ?_
        refine opsK_cons (by
         exact use_s [] (opOk_callg (fun a => #[a.eval (.tmp 34)]) rfl rfl (.inl rfl) (fun a => by simp only [List.map_toArray, List.map_cons, List.map_nil] <;> rfl) (fun args W => by go_simp) (fun a W hW hsp => by
            have e34 : a.eval (.tmp 34) = .agg #[.slice A2 T.length c2] := (hsp 34 (by kernel_rfl)).get rfl
            simp only [e34]
            exact (st_Len A2 T.length c2 _).mono fun e w' ⟨he, hb⟩ => ⟨_, he, hb, sps rfl rfl⟩)) (by kernel_rfl) (by rfl)) ?_
        refine opsK_cons (by
         exact use_s [] (opOk_callg (fun a => #[a.eval (.tmp 33), a.eval (.tmp 35)]) rfl rfl (.inl rfl) (fun a => by simp only [List.map_toArray, List.map_cons, List.map_nil] <;> rfl) (fun args W => by go_simp) (fun a W hW hsp => by
            have e33 : a.eval (.tmp 33) = .agg #[.slice A2 T.length c2] := (hsp 33 (by kernel_rfl)).get rfl
            have e35 : a.eval (.tmp 35) = .int .i64 T.length := (hsp 35 (by kernel_rfl)).get rfl
            simp only [e33, e35]
            exact (HAT.out _).mono fun e w' ⟨he, hb⟩ => ⟨_, he, hb, sps rfl rfl⟩)) (by kernel_rfl) (by rfl)) ?_
        refine opsK_cons (by
         exact use_s [] (opOk_move rfl rfl (.inl rfl) (by kernel_rfl) (fun _ _ h => sps rfl (h.get rfl))) (by kernel_rfl) (by rfl)) ?_
        refine opsK_cons (by
         exact use_s [] (opOk_load (p := ⟨sb, 0, none⟩) rfl rfl (.inl rfl) (by kernel_rfl) (fun _ _ h => h.get rfl) (fun W hW => by
            obtain ⟨k0, k1, k2⟩ := HC4.out _ hW
            exact ⟨.agg #[.int .i64 F, .int .i64 U], by go_simp, sps rfl rfl⟩)) (by kernel_rfl) (by rfl)) ?_
        refine opsK_cons (by
         exact use_s [] (opOk_callg (fun a => #[a.eval (.tmp 36), a.eval (.tmp 37), a.eval (.tmp 38)]) rfl rfl (.inl rfl) (fun a => by simp only [List.map_toArray, List.map_cons, List.map_nil] <;> rfl) (fun args W => by go_simp) (fun a W hW hsp => by
            have e36 : a.eval (.tmp 36) = .agg #[.slice A2 T.length T.length] := (hsp 36 (by kernel_rfl)).get rfl
            have e37 : a.eval (.tmp 37) = .int .u32 pe := (hsp 37 (by kernel_rfl)).get rfl
            have e38 : a.eval (.tmp 38) = .agg #[.int .i64 F, .int .i64 U] := (hsp 38 (by kernel_rfl)).get rfl
            simp only [e36, e37, e38]
            exact (HOF.out _ hW).mono fun e w' ⟨⟨A, c, he, hs⟩, hb⟩ => ⟨_, he, hb, sps rfl ⟨A, c, rfl, hs⟩⟩)) (by kernel_rfl) (by rfl)) ?_
        refine opsK_cons (by
         exact use_s [] (opOk_move rfl rfl (.inl rfl) (by kernel_rfl) (fun _ _ h => sps rfl (h.get rfl))) (by kernel_rfl) (by rfl)) ?_
        refine opsK_cons (by
         exact use_s [] (opOk_run rfl (.inl rfl) (fun a W hW hsp => by
            obtain ⟨A32, c32, hv, hs32⟩ := (hsp 32 (by kernel_rfl)).get rfl
            have e32 : a.eval (.tmp 32) = .tuple #[.slice A32 Z.length c32, .int .i64 en] := hv
            refine ⟨.slice A32 Z.length c32, ?_, sps rfl ⟨A32, c32, rfl, hs32⟩⟩
            unfold execOp
            simp only [e32]
            go_simp)) (by kernel_rfl) (by rfl)) ?_
        refine opsK_cons (by
         exact use_s [] (opOk_run rfl (.inl rfl) (fun a W hW hsp => by
            obtain ⟨A32, c32, hv, hs32⟩ := (hsp 32 (by kernel_rfl)).get rfl
            have e32 : a.eval (.tmp 32) = .tuple #[.slice A32 Z.length c32, .int .i64 en] := hv
            refine ⟨.int .i64 en, ?_, sps rfl rfl⟩
            unfold execOp
            simp only [e32]
            go_simp)) (by kernel_rfl) (by rfl)) ?_
        refine opsK_cons (by
         exact use_s [] (opOk_assign rfl rfl (.inl rfl) (by kernel_rfl) (fun _ _ h => sps rfl (h.get rfl))) (by kernel_rfl) (by rfl)) ?_
        refine opsK_cons (by
         exact use_s [] (opOk_assign rfl rfl (.inl rfl) (by kernel_rfl) (fun _ _ h => sps rfl (h.get rfl))) (by kernel_rfl) (by rfl)) ?_
        exact opsK_nil
      · intro vs W3 hb hsp
        obtain ⟨A11, c11, z11, hs11⟩ := (hsp 11 (by simp)).get rfl
        have z12 := (hsp 12 (by simp)).get rfl
        simp only [putAll]
        go_simp
        go_step
        go_meet
        exact ⟨⟨A11, c11, by first | rfl | exact z11, Lib.hid hs11⟩, by first | rfl | exact z12, Lib.hid hb⟩
    case rest =>
    obtain ⟨⟨Az, cz, rfl, HSZ⟩, rfl, HB7⟩ := hcut
    obtain ⟨w7, rfl⟩ : ∃ x : World, x = wc := ⟨_, rfl⟩
    have HB72 : Hid (Below w2.heap.size w2 w7) := Lib.hid (bTrans HB6.out HB7.out)
    have HRF7 := Lib.hid (bShift HRF.out HB7.out)
    have HK1 := Lib.hid (ab_Kind co w7)
    have HK2 := Lib.hid (r18_Kind co w7)
    have HKI := Lib.hid (ki_cases co)
    clear HC4 HAT HOF HK6 HRF
    go_wp2_with fail
    refine HK1.out.mono ?_
    rintro e w8 ⟨rfl, rfl⟩
    go_wp2_with fail
    refine HK2.out.mono ?_
    rintro e w9 ⟨rfl, hb9⟩
    have HB92 : Hid (Below w2.heap.size w2 w9) := Lib.hid (bTrans HB72.out hb9)
    have HSZ9 := Lib.hid (sl_bel HSZ.out hb9)
    have HRF9 := Lib.hid (bShift HRF7.out hb9)
    obtain ⟨kv, hkv⟩ : ∃ v, kiB co = v := ⟨_, rfl⟩
    obtain ⟨kn, hkn⟩ : ∃ v, kiN co = v := ⟨_, rfl⟩
    rw [hkv, hkn] at HKI ⊢
    obtain ⟨k1, k2⟩ := kv
    clear hb9 HK1 HK2 hkv hkn HSZ HRF7 HB72
    go_upto_region 7 with fail
    go_cut [58] from 49 to 58 (fun qv wx => qv = .bool false ∧ w9 = wx)
    case first =>
      rcases HKI.out with ⟨h1, h2⟩ | ⟨h1, h2⟩ | ⟨h1, h2⟩ | ⟨h1, h2⟩ | ⟨h1, h2⟩
      all_goals
        injection h1 with h1 h3
        subst h1
        subst h2
        subst h3
        clear HKI
        go_wp2
        go_meet
        exact ⟨rfl, rfl⟩
    case rest =>
    obtain ⟨rfl, rfl⟩ := hcut
    obtain ⟨S0, S1⟩ := HKC.out _ HB92.out
    obtain ⟨ob, hob⟩ : ∃ b, outB F U = b := ⟨_, rfl⟩
    cases ob with
    | true =>
      obtain ⟨hZ, hen⟩ := HZE.out
      unfold outZ at hZ
      unfold outE at hen
      rw [hob, if_pos rfl] at hZ hen
      subst hZ
      subst hen
      have hc : F < U ∧ (F < -25567 ∨ (¬ F < -25567 ∧ 84006 < U)) := by
        unfold outB at hob
        simp only [Bool.and_eq_true, Bool.or_eq_true, decide_eq_true_eq] at hob
        omega
      have HA9 := Lib.hid (HAW.out _ (bTrans HB2.out HB92.out))
      clear hob HZE HRF9
      obtain ⟨hc1, hc2 | ⟨hc2, hc3⟩⟩ := hc
      all_goals
        go_wp2_with fail
        refine HA9.out.mono ?_
        rintro e wa ⟨rfl, hba⟩
        have HF := Lib.hid (bTrans HB2.out (bTrans HB92.out hba))
        clear hba S0 S1
        go_wp2
        go_ret
        exact ⟨rfl, HF.out⟩
    | false =>
      obtain ⟨hZ, hen⟩ := HZE.out
      unfold outZ at hZ
      unfold outE at hen
      rw [hob, if_neg (by simp)] at hZ hen
      subst hen
      have hc : ¬ F < U ∨ (F < U ∧ ¬ F < -25567 ∧ ¬ 84006 < U) := by
        unfold outB at hob
        simp only [Bool.and_eq_false_iff, Bool.or_eq_false_iff, decide_eq_false_iff_not] at hob
        omega
      rw [hZ] at HLAW
      have HRFA : Hid (∀ W, Below w9.heap.size w9 W → Calls Tryz.prog 45 #[.slice Am M.length cm, .agg #[.int .i64 F, .int .i64 U]] W fun e w' => (∃ A c, e = .returned (.slice A Z.length c) ∧ Sl encAb 5 w' w'.heap.size A Z) ∧ Below W.heap.size W w') := Lib.hid fun W hW => (HRF9.out W hW).mono fun e w' ⟨h1, h2⟩ => by
        rw [HLAW.out] at h1
        exact ⟨h1, h2⟩
      clear hob HZE HRF9 hZ HLAW
      go_upto_region 9 with fail
      go_cut [73] from 59 to 73 (fun qv wx => qv = .bool false ∧ w9 = wx)
      case first =>
        rcases hc with hc | ⟨hc1, hc2, hc3⟩
        all_goals
          go_wp2
          go_meet
          exact ⟨rfl, rfl⟩
      case rest =>
      obtain ⟨rfl, rfl⟩ := hcut
      have HRFB := Lib.hid (HRFA.out w9 (Below.refl _ _))
      clear hc
      go_wp2_with fail
      refine HRFB.out.mono ?_
      rintro e wq ⟨⟨Aq, cq, rfl, hq⟩, hbq⟩
      have HBQ : Hid (Below w2.heap.size w2 wq) := Lib.hid (bTrans HB92.out hbq)
      have HSA := Lib.hid (sl_bel HSZ9.out hbq)
      have HSQ := Lib.hid hq
      clear hq hbq HRFA HRFB S0 S1 HSZ9
      go_wp2
      go_loopw [98] (fun iv wr => ∃ i : Nat, i ≤ Z.length ∧ iv = .int .i64 i ∧ Hid (Below wq.heap.size wq wr)) (fun iv _ => Z.length - (intOf iv).toNat)
      case atStart => exact ⟨0, Nat.zero_le _, rfl, Lib.hid (Below.refl _ _)⟩
      case round =>
        obtain ⟨i, hi, rfl, HB⟩ := hrel
        obtain ⟨wo, hwo⟩ : ∃ x : World, x = wr := ⟨_, rfl⟩
        subst hwo
        by_cases hlt : i < Z.length
        · obtain ⟨⟨xf, xt, xk, xp, xn⟩, hx⟩ : ∃ x, Z[i]? = some x := ⟨_, List.getElem?_eq_getElem hlt⟩
          obtain ⟨g, o, rfl, _, hat⟩ := HSA.out (by intro h; simp [h] at hx)
          obtain ⟨g', o', rfl, _, hat'⟩ := HSQ.out (by intro h; simp [h] at hx)
          have C0 : wo.cell? ⟨g, o + i * 5, none⟩ = some (.int .i64 xf) := bCell HB.out (hat i _ hx 0 _ rfl)
          have C1 : wo.cell? ⟨g, o + i * 5 + 1, none⟩ = some (.int .i64 xt) := bCell HB.out (hat i _ hx 1 _ rfl)
          have C2 : wo.cell? ⟨g, o + i * 5 + 2, none⟩ = some (.int .i64 xk) := bCell HB.out (hat i _ hx 2 _ rfl)
          have C3 : wo.cell? ⟨g, o + i * 5 + 3, none⟩ = some (.int .i64 xp) := bCell HB.out (hat i _ hx 3 _ rfl)
          have C4 : wo.cell? ⟨g, o + i * 5 + 4, none⟩ = some (.int .i64 xn) := bCell HB.out (hat i _ hx 4 _ rfl)
          have D0 : wo.cell? ⟨g', o' + i * 5, none⟩ = some (.int .i64 xf) := bCell HB.out (hat' i _ hx 0 _ rfl)
          have D1 : wo.cell? ⟨g', o' + i * 5 + 1, none⟩ = some (.int .i64 xt) := bCell HB.out (hat' i _ hx 1 _ rfl)
          have D2 : wo.cell? ⟨g', o' + i * 5 + 2, none⟩ = some (.int .i64 xk) := bCell HB.out (hat' i _ hx 2 _ rfl)
          have D3 : wo.cell? ⟨g', o' + i * 5 + 3, none⟩ = some (.int .i64 xp) := bCell HB.out (hat' i _ hx 3 _ rfl)
          have D4 : wo.cell? ⟨g', o' + i * 5 + 4, none⟩ = some (.int .i64 xn) := bCell HB.out (hat' i _ hx 4 _ rfl)
          have hlt2 : (i : Int) < (Z.length : Int) := by omega
          have hrun : ∀ W : World, (binOp .neq 90 (.agg #[.int .i64 xf, .int .i64 xt, .int .i64 xk, .int .i64 xp, .int .i64 xn]) (.agg #[.int .i64 xf, .int .i64 xt, .int .i64 xk, .int .i64 xp, .int .i64 xn])).run Tryz.prog W = .ok (.bool false) W := fun W => eqAb xf xt xk xp xn W
          clear hx hat hat'
          go_upto_region 17 with fail
          go_quiet (fail)
          rename_i nq
          have HBR : Hid (Below wq.heap.size wq (wo.drewN nq)) := Lib.hid (HB.out.trans ((bDrewN wo nq).mono HB.out.size))
          clear C0 C1 C2 C3 C4 D0 D1 D2 D3 D4 hrun
          go_wp2
          exact ⟨⟨i + 1, by omega, by go_num, HBR⟩, by simp [intOf]; omega⟩
        · obtain rfl : i = Z.length := by omega
          have hge : ¬ (Z.length : Int) < (Z.length : Int) := by omega
          have HBO : Hid (Below w2.heap.size w2 wo) := Lib.hid (bTrans HBQ.out HB.out)
          have HA9 := Lib.hid (HAW.out _ (bTrans HB2.out HBO.out))
          clear hlt HB HBQ
          go_wp2_with fail
          refine HA9.out.mono ?_
          rintro e wa ⟨rfl, hba⟩
          have HF := Lib.hid (bTrans HB2.out (bTrans HBO.out hba))
          clear hba
          go_wp2
          go_ret
          exact ⟨rfl, HF.out⟩
end Go.Proofs.YtlgoaohklggcdaaGreatDoor
