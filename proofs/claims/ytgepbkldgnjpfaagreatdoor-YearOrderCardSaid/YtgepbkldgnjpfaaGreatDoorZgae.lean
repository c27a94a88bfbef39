/- Out of: Yr1 Yr2 Yr3 Yp0. -/
import Derived.Test.YtgepbkldgnjpfaaGreatDoorZgt
import Derived.Test.YtgepbkldgnjpfaaGreatDoorZgac
import Derived.Test.YtgepbkldgnjpfaaGreatDoorZgad
import Derived.Deep.Cut
import Derived.Deep.RegionHeld3
/- slip.Sums. -/
namespace Go.Proofs.YtgepbkldgnjpfaaGreatDoor
open Go.RowKit Go.Sort Go.BigFrame

/-- What a slip adds up to: gross, held, net, firm, what is wrong. -/
def sumsL (y i : Int) (l : List Li) : Int × Int × Int × Int × Int :=
  if slpE y i l ≠ 0 then (0, 0, 0, 0, slpE y i l)
  else if fitB (sumQ 0 0 l) = true ∧ fitB (sumQ 1 5 l) = true ∧ fitB (sumQ 0 0 l - sumQ 1 5 l) = true ∧ fitB (sumQ 6 6 l) = true then (sumQ 0 0 l, sumQ 1 5 l, sumQ 0 0 l - sumQ 1 5 l, sumQ 6 6 l, 0)
  else (0, 0, 0, 0, 9)
theorem slpGo_fit : ∀ (l : List Li) (o : Option Li), slpGo o l = 0 → ∀ x ∈ l, fitB x.2.2 = true
  | [], _, _ => fun x hx => by simp at hx
  | a :: r, o, h => fun x hx => by
    unfold slpGo at h
    by_cases h1 : linE a ≠ 0
    · rw [if_pos h1] at h; exact absurd h h1
    rw [if_neg h1] at h
    have hr : ∃ o', slpGo o' r = 0 := by
      cases o with
      | none => exact ⟨_, h⟩
      | some b =>
        simp only [] at h
        split at h
        · simp at h
        · split at h
          · simp at h
          · exact ⟨_, h⟩
    obtain ⟨o', hr⟩ := hr
    rcases List.mem_cons.1 hx with rfl | hx
    · have h2 : linE x = 0 := Decidable.not_not.1 h1
      unfold linE at h2
      repeat' (split at h2)
      all_goals first | (simp at h2; done) | skip
      rename_i h3
      simpa using h3
    · exact slpGo_fit r o' hr x hx
theorem slpE_fit {y i : Int} {l : List Li} (h : slpE y i l = 0) : l.length ≤ 448 ∧ ∀ x ∈ l, fitB x.2.2 = true := by
  unfold slpE at h
  split at h
  · simp at h
  · split at h
    · simp at h
    · exact ⟨by omega, slpGo_fit l none h⟩
set_option maxHeartbeats 4000000 in
set_option maxRecDepth 100000 in
theorem sl_Sums (y i : Int) (l : List Li) (A : Option Addr) (cap : Nat) (w : World) (hn : l.length ≤ 1000000) (hsz : ∀ x ∈ l, x.2.1.size ≤ 9223372036854775807) (hs : Sl encLi 3 w w.heap.size A l) :
    Calls Tryz.prog 12 #[.agg #[.int .i64 y, .int .i64 i, .slice A l.length cap]] w fun e w' => e = .returned (.tuple #[.int .i64 (sumsL y i l).1, .int .i64 (sumsL y i l).2.1, .int .i64 (sumsL y i l).2.2.1, .int .i64 (sumsL y i l).2.2.2.1, .int .i64 (sumsL y i l).2.2.2.2]) ∧ Below w.heap.size w w' := by
  obtain ⟨R, hR⟩ : ∃ R, sumsL y i l = R := ⟨_, rfl⟩
  rw [hR]
  have HR := Lib.hid hR
  obtain ⟨sb, hsb⟩ : ∃ x, w.heap.size = x := ⟨_, rfl⟩
  obtain ⟨wa, hwa⟩ : ∃ x, w.alloc (.cells #[.int .i64 y, .int .i64 i, .slice A l.length cap] 41) = x := ⟨_, rfl⟩
  have hb0 : Bk sb 41 #[.int .i64 y, .int .i64 i, .slice A l.length cap] wa := by rw [← hwa, ← hsb]; exact Bk.new _ _ _
  have HBA : Hid (Below w.heap.size w wa) := Lib.hid (by rw [← hwa]; exact bAlloc w _)
  have S0 : wa.cell? ⟨sb, 0, none⟩ = some (.int .i64 y) := hb0.cell 0
  have S1 : wa.cell? ⟨sb, 1, none⟩ = some (.int .i64 i) := hb0.cell 1
  have S2 : wa.cell? ⟨sb, 2, none⟩ = some (.slice A l.length cap) := hb0.cell 2
  have HB0 := Lib.hid hb0
  have HS : Hid (Sl encLi 3 wa wa.heap.size A l) := Lib.hid (hs.below HBA.out)
  obtain ⟨E, hE⟩ : ∃ x, slpE y i l = x := ⟨_, rfl⟩
  have HCK : Hid (Calls Tryz.prog 13 #[.agg #[.int .i64 y, .int .i64 i, .slice A l.length cap]] wa fun e w' => e = .returned (.int .i64 E) ∧ Below wa.heap.size wa w') := Lib.hid (by rw [← hE]; exact sl_Check y i l A cap wa hn hsz HS.out)
  have HE := Lib.hid hE
  clear hR hb0 hs hsz hE
  go_enter Tryz.func12, Tryz.ntmps12
  go_upto_region 1 with fail
  clear hwa hsb
  go_wp2_with fail
  refine HCK.out.mono ?_
  rintro e w1 ⟨rfl, hb1⟩
  have HB1 := Lib.hid hb1
  clear hb1 S0 S1 S2
  by_cases h0 : E = 0
  case neg =>
    have nz : (E != 0) = true := by simpa using h0
    have HX : Hid (R = (0, 0, 0, 0, E)) := Lib.hid (by rw [← HR.out]; unfold sumsL; rw [HE.out, if_pos h0])
    clear h0
    go_wp2
    rw [HX.out]
    exact bodyPost_ret (v := .tuple #[.int .i64 0, .int .i64 0, .int .i64 0, .int .i64 0, .int .i64 E]) (by simp [results, Tryz.results12, go_sem]) rfl ⟨rfl, bTrans HBA.out HB1.out⟩
  subst h0
  have hfit := slpE_fit HE.out
  have hl448 := hfit.1
  have HS1 := Lib.hid (HS.out.below HB1.out)
  obtain ⟨g, hg⟩ : ∃ x, sumQ 0 0 l = x := ⟨_, rfl⟩
  obtain ⟨h, hh⟩ : ∃ x, sumQ 1 5 l = x := ⟨_, rfl⟩
  obtain ⟨f, hf⟩ : ∃ x, sumQ 6 6 l = x := ⟨_, rfl⟩
  have bg := sumQ_bd 0 0 l hfit.2
  have bh := sumQ_bd 1 5 l hfit.2
  have bf := sumQ_bd 6 6 l hfit.2
  rw [hg] at bg
  rw [hh] at bh
  rw [hf] at bf
  have HC1 : Hid (∀ W, Below w1.heap.size w1 W → Calls Tryz.prog 21 #[.agg #[.int .i64 y, .int .i64 i, .slice A l.length cap], .int .i64 0, .int .i64 0] W fun e w' => e = .returned (.int .i64 g) ∧ Below W.heap.size W w') := Lib.hid fun W hW => by rw [← hg]; exact sl_sum y i l A cap 0 0 W hfit.1 hfit.2 (HS1.out.below hW)
  have HC2 : Hid (∀ W, Below w1.heap.size w1 W → Calls Tryz.prog 21 #[.agg #[.int .i64 y, .int .i64 i, .slice A l.length cap], .int .i64 1, .int .i64 5] W fun e w' => e = .returned (.int .i64 h) ∧ Below W.heap.size W w') := Lib.hid fun W hW => by rw [← hh]; exact sl_sum y i l A cap 1 5 W hfit.1 hfit.2 (HS1.out.below hW)
  have HC3 : Hid (∀ W, Below w1.heap.size w1 W → Calls Tryz.prog 21 #[.agg #[.int .i64 y, .int .i64 i, .slice A l.length cap], .int .i64 6, .int .i64 6] W fun e w' => e = .returned (.int .i64 f) ∧ Below W.heap.size W w') := Lib.hid fun W hW => by rw [← hf]; exact sl_sum y i l A cap 6 6 W hfit.1 hfit.2 (HS1.out.below hW)
  have HK : Hid (∀ W, Below w1.heap.size w1 W → W.cell? ⟨sb, 0, none⟩ = some (.int .i64 y) ∧ W.cell? ⟨sb, 1, none⟩ = some (.int .i64 i) ∧ W.cell? ⟨sb, 2, none⟩ = some (.slice A l.length cap)) := Lib.hid fun W hW => by
    have hk := bkBel (bkBel HB0.out HB1.out) hW
    exact ⟨hk.cell 0, hk.cell 1, hk.cell 2⟩
  have HR2 : Hid (R = if fitB g = true ∧ fitB h = true ∧ fitB (g - h) = true ∧ fitB f = true then (g, h, g - h, f, 0) else (0, 0, 0, 0, 9)) := Lib.hid (by rw [← HR.out]; unfold sumsL; rw [HE.out, if_neg (by simp), hg, hh, hf])
  have HBW := Lib.hid (bTrans HBA.out HB1.out)
  have wr : IntKind.i64.wrap (g - h) = g - h := by rw [IntKind.wrap_i64]; omega
  clear hg hh hf hfit bg bh bf
  have S0 := (HK.out w1 (Below.refl _ _)).1
  have S1 := (HK.out w1 (Below.refl _ _)).2.1
  have S2 := (HK.out w1 (Below.refl _ _)).2.2
  go_upto_region 4 with fail
  go_cut [2, 3, 5] from 15 to 21 (fun a b c wx => a = .int .i64 g ∧ b = .int .i64 h ∧ c = .int .i64 f ∧ Hid (Below w1.heap.size w1 wx))
  case first =>
    go_region_held3 (fun w' => w'.cell? ⟨sb, 0, none⟩ = some (.int .i64 y) ∧ w'.cell? ⟨sb, 1, none⟩ = some (.int .i64 i) ∧ w'.cell? ⟨sb, 2, none⟩ = some (.slice A l.length cap)) (first | exact HK.out _ (bTrans (bDrew _) hb3) | exact HK.out _ (bTrans (bTrans (bDrew _) hb3) hb4) | exact HK.out _ (bTrans (bTrans (bTrans (bDrew _) hb3) hb4) hb5) | go_keep) (first | (go_at_call 21; with_reducible refine (HC1.out _ (bDrew _)).mono ?_; rintro e w3 ⟨rfl, hb3⟩) | (go_at_call 21; with_reducible refine (HC2.out _ (bTrans (bDrew _) hb3)).mono ?_; rintro e w4 ⟨rfl, hb4⟩) | (go_at_call 21; with_reducible refine (HC3.out _ (bTrans (bTrans (bDrew _) hb3) hb4)).mono ?_; rintro e w5 ⟨rfl, hb5⟩))
    go_wp2
    go_meet
    exact ⟨rfl, rfl, rfl, Lib.hid (bTrans (bTrans (bTrans (bDrew _) hb3) hb4) hb5)⟩
  case rest =>
  obtain ⟨rfl, rfl, rfl, HX⟩ := hcut
  clear S0 S1 S2
  have HBC := Lib.hid (bTrans HBW.out HX.out)
  go_upto_region 6 with fail
  go_wp2
  obtain ⟨vb, hvb⟩ : ∃ x, wc.heap.size = x := ⟨_, rfl⟩
  obtain ⟨wq, hwq⟩ : ∃ x, wc.alloc (.cells #[.int .i64 g, .int .i64 h, .int .i64 (g - h), .int .i64 f] 28) = x := ⟨_, rfl⟩
  have kq : Bk vb 28 #[.int .i64 g, .int .i64 h, .int .i64 (g - h), .int .i64 f] wq := by rw [← hwq, ← hvb]; exact Bk.new _ _ _
  have HQ : Hid (Below w.heap.size w wq) := Lib.hid (HBC.out.trans (by rw [← hwq]; exact (bAlloc wc _).mono HBC.out.size))
  have q0 : wq.cell? ⟨vb, 0, none⟩ = some (.int .i64 g) := kq.cell 0
  have q1 : wq.cell? ⟨vb, 1, none⟩ = some (.int .i64 h) := kq.cell 1
  have q2 : wq.cell? ⟨vb, 2, none⟩ = some (.int .i64 (g - h)) := kq.cell 2
  have q3 : wq.cell? ⟨vb, 3, none⟩ = some (.int .i64 f) := kq.cell 3
  have HWF := Lib.hid (And.intro hvb hwq)
  clear kq hvb hwq
  rw [HWF.out.1, HWF.out.2]
  clear HWF
  go_loopg [2, 3, 4, 5, 6, 30] 4 (fun k a b c d e iv wr => ∃ n : Nat, n + k = 4 ∧ iv = .int .i64 n ∧ a = .int .i64 g ∧ b = .int .i64 h ∧ c = .int .i64 (g - h) ∧ d = .int .i64 f ∧ e = .int .i64 0 ∧ Hid (∀ j, j < n → fitB ([g, h, g - h, f].getD j 0) = true) ∧ wr = wq)
  case atStart => exact ⟨0, rfl, rfl, rfl, rfl, rfl, rfl, rfl, Lib.hid (fun j hj => by omega), rfl⟩
  case round =>
    obtain ⟨n, hn1, rfl, rfl, rfl, rfl, rfl, rfl, HA, rfl⟩ := hrel
    have hn5 : n = 0 ∨ n = 1 ∨ n = 2 ∨ n = 3 ∨ n = 4 := by omega
    rcases hn5 with rfl | rfl | rfl | rfl | rfl
    · have HF := Lib.hid (fun W => ce_Fits g W)
      obtain ⟨b, hb⟩ : ∃ b, fitB g = b := ⟨_, rfl⟩
      have HF : Hid (∀ W, Calls Tryz.prog 22 #[.int .i64 g] W fun e w' => e = .returned (.bool b) ∧ W = w') := Lib.hid (fun W => by rw [← hb]; exact ce_Fits g W)
      have HB := Lib.hid hb
      clear hb
      go_wp2_with fail
      refine (HF.out _).mono ?_
      rintro e w8 ⟨rfl, rfl⟩
      cases b with
      | true =>
        have HN : Hid (∀ j, j < 0 + 1 → fitB ([g, h, g - h, f].getD j 0) = true) := Lib.hid (fun j hj => by
          by_cases hj2 : j < 0
          · exact HA.out j hj2
          · obtain rfl : j = 0 := by omega
            exact HB.out)
        go_wp2
        go_roundg 3
        case measure => omega
        case rel => exact ⟨0 + 1, rfl, by go_num, rfl, rfl, rfl, rfl, rfl, HN, rfl⟩
      | false =>
        have HX2 : Hid (R = (0, 0, 0, 0, 9)) := Lib.hid (by rw [HR2.out, if_neg (by rw [HB.out]; simp)])
        go_wp2
        rw [HX2.out]
        exact bodyPost_ret (v := .tuple #[.int .i64 0, .int .i64 0, .int .i64 0, .int .i64 0, .int .i64 9]) (by simp [results, Tryz.results12, go_sem]) rfl ⟨rfl, HQ.out⟩
    · have HF := Lib.hid (fun W => ce_Fits h W)
      obtain ⟨b, hb⟩ : ∃ b, fitB h = b := ⟨_, rfl⟩
      have HF : Hid (∀ W, Calls Tryz.prog 22 #[.int .i64 h] W fun e w' => e = .returned (.bool b) ∧ W = w') := Lib.hid (fun W => by rw [← hb]; exact ce_Fits h W)
      have HB := Lib.hid hb
      clear hb
      go_wp2_with fail
      refine (HF.out _).mono ?_
      rintro e w8 ⟨rfl, rfl⟩
      cases b with
      | true =>
        have HN : Hid (∀ j, j < 1 + 1 → fitB ([g, h, g - h, f].getD j 0) = true) := Lib.hid (fun j hj => by
          by_cases hj2 : j < 1
          · exact HA.out j hj2
          · obtain rfl : j = 1 := by omega
            exact HB.out)
        go_wp2
        go_roundg 2
        case measure => omega
        case rel => exact ⟨1 + 1, rfl, by go_num, rfl, rfl, rfl, rfl, rfl, HN, rfl⟩
      | false =>
        have HX2 : Hid (R = (0, 0, 0, 0, 9)) := Lib.hid (by rw [HR2.out, if_neg (by rw [HB.out]; simp)])
        go_wp2
        rw [HX2.out]
        exact bodyPost_ret (v := .tuple #[.int .i64 0, .int .i64 0, .int .i64 0, .int .i64 0, .int .i64 9]) (by simp [results, Tryz.results12, go_sem]) rfl ⟨rfl, HQ.out⟩
    · have HF := Lib.hid (fun W => ce_Fits (g - h) W)
      obtain ⟨b, hb⟩ : ∃ b, fitB (g - h) = b := ⟨_, rfl⟩
      have HF : Hid (∀ W, Calls Tryz.prog 22 #[.int .i64 (g - h)] W fun e w' => e = .returned (.bool b) ∧ W = w') := Lib.hid (fun W => by rw [← hb]; exact ce_Fits (g - h) W)
      have HB := Lib.hid hb
      clear hb
      go_wp2_with fail
      refine (HF.out _).mono ?_
      rintro e w8 ⟨rfl, rfl⟩
      cases b with
      | true =>
        have HN : Hid (∀ j, j < 2 + 1 → fitB ([g, h, g - h, f].getD j 0) = true) := Lib.hid (fun j hj => by
          by_cases hj2 : j < 2
          · exact HA.out j hj2
          · obtain rfl : j = 2 := by omega
            exact HB.out)
        go_wp2
        go_roundg 1
        case measure => omega
        case rel => exact ⟨2 + 1, rfl, by go_num, rfl, rfl, rfl, rfl, rfl, HN, rfl⟩
      | false =>
        have HX2 : Hid (R = (0, 0, 0, 0, 9)) := Lib.hid (by rw [HR2.out, if_neg (by rw [HB.out]; simp)])
        go_wp2
        rw [HX2.out]
        exact bodyPost_ret (v := .tuple #[.int .i64 0, .int .i64 0, .int .i64 0, .int .i64 0, .int .i64 9]) (by simp [results, Tryz.results12, go_sem]) rfl ⟨rfl, HQ.out⟩
    · have HF := Lib.hid (fun W => ce_Fits f W)
      obtain ⟨b, hb⟩ : ∃ b, fitB f = b := ⟨_, rfl⟩
      have HF : Hid (∀ W, Calls Tryz.prog 22 #[.int .i64 f] W fun e w' => e = .returned (.bool b) ∧ W = w') := Lib.hid (fun W => by rw [← hb]; exact ce_Fits f W)
      have HB := Lib.hid hb
      clear hb
      go_wp2_with fail
      refine (HF.out _).mono ?_
      rintro e w8 ⟨rfl, rfl⟩
      cases b with
      | true =>
        have HN : Hid (∀ j, j < 3 + 1 → fitB ([g, h, g - h, f].getD j 0) = true) := Lib.hid (fun j hj => by
          by_cases hj2 : j < 3
          · exact HA.out j hj2
          · obtain rfl : j = 3 := by omega
            exact HB.out)
        go_wp2
        go_roundg 0
        case measure => omega
        case rel => exact ⟨3 + 1, rfl, by go_num, rfl, rfl, rfl, rfl, rfl, HN, rfl⟩
      | false =>
        have HX2 : Hid (R = (0, 0, 0, 0, 9)) := Lib.hid (by rw [HR2.out, if_neg (by rw [HB.out]; simp)])
        go_wp2
        rw [HX2.out]
        exact bodyPost_ret (v := .tuple #[.int .i64 0, .int .i64 0, .int .i64 0, .int .i64 0, .int .i64 9]) (by simp [results, Tryz.results12, go_sem]) rfl ⟨rfl, HQ.out⟩
    · have HX2 : Hid (R = (g, h, g - h, f, 0)) := Lib.hid (by rw [HR2.out, if_pos ⟨HA.out 0 (by omega), HA.out 1 (by omega), HA.out 2 (by omega), HA.out 3 (by omega)⟩])
      go_wp2
      rw [HX2.out]
      exact bodyPost_ret (v := .tuple #[.int .i64 g, .int .i64 h, .int .i64 (g - h), .int .i64 f, .int .i64 0]) (by simp [results, Tryz.results12, go_sem]) rfl ⟨rfl, HQ.out⟩
end Go.Proofs.YtgepbkldgnjpfaaGreatDoor

/- year: what a slip's lines add up to, in plain. -/
namespace Go.Proofs.YtgepbkldgnjpfaaGreatDoor
open Go.RowKit Go.Sort Go.BigFrame Go.Maps

theorem sumQ_perm {f t : Int} {l r : List Li} (h : l.Perm r) : sumQ f t l = sumQ f t r := by
  induction h with
  | nil => rfl
  | cons x _ ih => rw [sumQ_cons, sumQ_cons, ih]
  | swap x y l => simp only [sumQ_cons]; omega
  | trans _ _ h1 h2 => exact h1.trans h2
theorem sumQ_app (f t : Int) : ∀ (l r : List Li), sumQ f t (l ++ r) = sumQ f t l + sumQ f t r
  | [], r => by simp [sumQ]
  | x :: l, r => by rw [List.cons_append, sumQ_cons, sumQ_cons, sumQ_app f t l r]; omega
theorem slpG_congr : ∀ (m : Ass Kp Int) (s s' : List Kp), (∀ k, k ∈ s ↔ k ∈ s') → slpG m s = slpG m s'
  | [], _, _, _ => rfl
  | p :: r, s, s', h => by
    have e : inK p.1 s = inK p.1 s' := by rw [Bool.eq_iff_iff, inK_iff, inK_iff]; exact h _
    unfold slpG
    rw [e, slpG_congr r s s' h, slpG_congr r (p.1 :: s) (p.1 :: s') (fun k => by simp [h k])]
def inQ (f t : Int) (k : Kp) (v : Int) : Int := if f ≤ k.1.1 ∧ k.1.1 ≤ t then v else 0
theorem sumQ_ln (f t : Int) (k : Kp) (v : Int) : sumQ f t (if v = 0 then [] else [lnP k v]) = inQ f t k v := by
  unfold inQ
  by_cases h : v = 0
  · rw [if_pos h, h]; simp [sumQ]
  · rw [if_neg h]; exact Int.add_zero _
theorem slpG_seen (f t : Int) (k : Kp) : ∀ (m : Ass Kp Int) (s : List Kp), k ∉ s → sumQ f t (slpG m (k :: s)) + inQ f t k (gP m k) = sumQ f t (slpG m s)
  | [], s, _ => by simp [slpG, sumQ, gP, getA, inQ]
  | p :: r, s, hk => by
    by_cases hp : p.1 ∈ s
    · have hne : p.1 ≠ k := fun e => hk (e ▸ hp)
      have hg : gP (p :: r) k = gP r k := by unfold gP; rw [getA, if_neg hne]
      have h1 : slpG (p :: r) (k :: s) = slpG r (k :: s) := by rw [slpG, if_pos (inK_iff.2 (List.mem_cons_of_mem _ hp))]
      have h2 : slpG (p :: r) s = slpG r s := by rw [slpG, if_pos (inK_iff.2 hp)]
      rw [h1, h2, hg]
      exact slpG_seen f t k r s hk
    · by_cases he : p.1 = k
      · have hg : gP (p :: r) k = p.2 := by unfold gP; rw [getA, if_pos he]; rfl
        have h1 : slpG (p :: r) (k :: s) = slpG r (k :: s) := by rw [slpG, if_pos (inK_iff.2 (by rw [he]; exact List.mem_cons_self))]
        have h2 : slpG (p :: r) s = (if p.2 = 0 then [] else [lnP p.1 p.2]) ++ slpG r (k :: s) := by rw [slpG, if_neg (by rw [inK_iff]; exact hp), he]
        rw [h1, h2, hg, sumQ_app, sumQ_ln, he]
        omega
      · have hg : gP (p :: r) k = gP r k := by unfold gP; rw [getA, if_neg he]
        have hk2 : k ∉ p.1 :: s := by
          intro h
          rcases List.mem_cons.1 h with h | h
          · exact he h.symm
          · exact hk h
        have h1 : slpG (p :: r) (k :: s) = (if p.2 = 0 then [] else [lnP p.1 p.2]) ++ slpG r (k :: p.1 :: s) := by
          rw [slpG, if_neg (by
            rw [inK_iff]
            intro h
            rcases List.mem_cons.1 h with h | h
            · exact he h
            · exact hp h), slpG_congr r (p.1 :: k :: s) (k :: p.1 :: s) (fun q => by simp only [List.mem_cons]; constructor <;> (rintro (h | h | h) <;> simp [h]))]
        have h2 : slpG (p :: r) s = (if p.2 = 0 then [] else [lnP p.1 p.2]) ++ slpG r (p.1 :: s) := by rw [slpG, if_neg (by rw [inK_iff]; exact hp)]
        have ih := slpG_seen f t k r (p.1 :: s) hk2
        rw [h1, h2, hg, sumQ_app, sumQ_app]
        omega
theorem slpG_put (f t : Int) (k : Kp) (v : Int) (m : Ass Kp Int) : sumQ f t (slpG ((k, v) :: m) []) = sumQ f t (slpG m []) - inQ f t k (gP m k) + inQ f t k v := by
  have h := slpG_seen f t k m [] (by simp)
  rw [slpG, if_neg (by rw [inK_iff]; simp), sumQ_app, sumQ_ln]
  show inQ f t k v + sumQ f t (slpG m [k]) = _
  omega
/-- What items add up to. -/
def sumI : List It → Int
  | [] => 0
  | x :: r => x.2 + sumI r
theorem sumI_cons (x : It) (r : List It) : sumI (x :: r) = x.2 + sumI r := rfl
theorem addP_sum (f t part : Int) (hp : 0 ≤ part ∧ part ≤ 6) : ∀ (l : List It) (m : Ass Kp Int), (∀ x ∈ l, x.1.size ≤ 32) → ∃ q : Int, sumQ f t (slpG (addP part m l) []) = sumQ f t (slpG m []) + (if f ≤ part ∧ part ≤ t then sumI l else 0) + q * 18446744073709551616
  | [], m, _ => ⟨0, by simp [addP, sumI]⟩
  | x :: r, m, h => by
    have hx : (0 ≤ part ∧ part ≤ 6) ∧ x.1.size ≤ 32 := ⟨hp, h x List.mem_cons_self⟩
    obtain ⟨q, hq⟩ := addP_sum f t part hp r ((⟨(part, x.1), hx⟩, IntKind.i64.wrap (gP m ⟨(part, x.1), hx⟩ + x.2)) :: m) (fun y hy => h y (List.mem_cons_of_mem _ hy))
    rw [addP_cons hx, hq, slpG_put, IntKind.wrap_i64, sumI_cons]
    unfold inQ
    simp only []
    by_cases hb : f ≤ part ∧ part ≤ t
    · simp only [if_pos hb]
      exact ⟨q - (gP m ⟨(part, x.1), hx⟩ + x.2 + 9223372036854775808) / 18446744073709551616, by omega⟩
    · simp only [if_neg hb]
      exact ⟨q, by omega⟩
theorem leftP_sum (part : Int) : ∀ (l : List It) (a : Int), ∃ q : Int, leftP part a l = a - (if part = 0 ∨ part = 6 then 0 else sumI l) + q * 18446744073709551616
  | [], a => ⟨0, by simp [leftP, sumI]⟩
  | x :: r, a => by
    obtain ⟨q, hq⟩ := leftP_sum part r (if part = 0 ∨ part = 6 then a else IntKind.i64.wrap (a - x.2))
    have he : leftP part a (x :: r) = leftP part (if part = 0 ∨ part = 6 then a else IntKind.i64.wrap (a - x.2)) r := rfl
    rw [he, hq, sumI_cons]
    by_cases hb : part = 0 ∨ part = 6
    · simp only [if_pos hb]
      exact ⟨q, by omega⟩
    · simp only [if_neg hb]
      rw [IntKind.wrap_i64]
      exact ⟨q - (a - x.2 + 9223372036854775808) / 18446744073709551616, by omega⟩
/-- What behind tax takes: never below nothing; no more than there is. -/
theorem afterL_sum : ∀ (l : List It) (a : Int), 0 ≤ sumI (afterL a l).1 ∧ (0 < sumI (afterL a l).1 → sumI (afterL a l).1 ≤ a)
  | [], a => by simp [afterL, sumI]
  | x :: r, a => by
    unfold afterL
    split
    · have h := afterL_sum r (a - min x.2 a)
      rw [sumI_cons]
      simp only []
      omega
    · exact afterL_sum r a
end Go.Proofs.YtgepbkldgnjpfaaGreatDoor

/- year: what is held back behind tax leaves the net not below 0, in plain. -/
namespace Go.Proofs.YtgepbkldgnjpfaaGreatDoor
open Go.RowKit Go.Sort Go.BigFrame Go.Maps

theorem sumI_snoc (x : It) : ∀ l : List It, sumI (l ++ [x]) = sumI l + x.2
  | [] => by simp [sumI]
  | y :: l => by rw [List.cons_append, sumI_cons, sumI_cons, sumI_snoc x l]; omega
theorem ordBad_pr {o : Od} (h : ordBad o = false) : 0 ≤ o.pr := by
  unfold ordBad at h
  simp [amtB] at h
  omega
theorem attGo_sum (net : Int) (was : Ass ByteArray Int) : ∀ (l : List Od) (left : Int) (out : Ass ByteArray Int) (it : List It), (∀ x ∈ l, 0 ≤ x.pr) → (attGo net was left out it l).2.2 = 0 → sumI it ≤ sumI (attGo net was left out it l).1 ∧ (sumI it < sumI (attGo net was left out it l).1 → sumI (attGo net was left out it l).1 - sumI it ≤ left)
  | [], left, out, it, _, _ => by simp only [attGo]; omega
  | x :: r, left, out, it, hp, h => by
    rw [attGo_cons] at h ⊢
    split at h
    · simp at h
    rename_i h1
    split at h
    · simp at h
    rename_i h2
    rw [if_neg h1, if_neg h2]
    have ih := attGo_sum net was r _ _ _ (fun y hy => hp y (List.mem_cons_of_mem _ hy)) h
    have hb := takO_bd (net := net) (was := was) (left := left) (x := x)
    have hx := hp x List.mem_cons_self
    generalize takO net was left x = tk at *
    by_cases h3 : 0 < tk
    · simp only [if_pos h3] at ih ⊢
      rw [sumI_snoc] at ih
      simp only [] at ih
      omega
    · simp only [if_neg h3] at ih ⊢
      omega
theorem attL_sum (net : Int) (was : Ass ByteArray Int) (l : List Od) (h : (attL net was l).2.2 = 0) : 0 ≤ sumI (attL net was l).1 ∧ (0 < sumI (attL net was l).1 → sumI (attL net was l).1 ≤ net) := by
  unfold attL at h ⊢
  split at h
  · simp at h
  rename_i h1
  split at h
  · rename_i h2; exact absurd h h2
  rename_i h2
  rw [if_neg h1, if_neg h2]
  have hp := Ao.sortO_perm (l := l) (fun o ho => nameB_len (attE_ok (Decidable.not_not.1 h2) o ho).1)
  have := attGo_sum net was (Ao.sortO l) net was [] (fun x hx => ordBad_pr (attE_ok (Decidable.not_not.1 h2) x (hp.mem_iff.1 hx)).2) h
  simp only [sumI] at this
  omega
theorem sumC_sumI : ∀ (l : List It) (a : Int), (sumC a (l.map Prod.snd)).2 = 0 → (sumC a (l.map Prod.snd)).1 = a + sumI l
  | [], a, _ => by simp [sumC, sumI]
  | x :: r, a, h => by
    rw [List.map_cons, sumC_cons] at h ⊢
    split at h
    · rename_i h1
      rw [if_pos h1, sumC_sumI r _ h, sumI_cons]
      unfold toldR at h1 ⊢
      split at h1
      · simp at h1
      split at h1
      · simp at h1
      rename_i h2 h3
      rw [if_neg h2, if_neg h3]
      show a + x.2 + sumI r = _
      omega
    · rename_i h1; exact absurd h h1
theorem runs_cons0 {f : Sd → Sd × Int} {r : List (Sd → Sd × Int)} {d : Sd} {e : Int} (h : (runs (f :: r) d e).2 = 0) : e = 0 ∧ (runs r (f d).1 (f d).2).2 = 0 ∧ runs (f :: r) d e = runs r (f d).1 (f d).2 := by
  have hc : runs (f :: r) d e = if e ≠ 0 then (d, e) else runs r (f d).1 (f d).2 := rfl
  rw [hc] at h
  by_cases he : e = 0
  · rw [if_neg (by simpa using he)] at h
    exact ⟨he, h, by rw [hc, if_neg (by simpa using he)]⟩
  · rw [if_pos he] at h
    exact absurd h he
theorem leftP_exact : ∀ (l : List It) (a : Int), (-9223372036854775808 ≤ a ∧ a ≤ 9223372036854775807) → ∀ (part : Int), ¬ (part = 0 ∨ part = 6) → (0 ≤ sumI l) → (sumI l ≤ a ∨ sumI l = 0) → leftP part a l = a - sumI l := by
  intro l a ha part hp h0 h1
  obtain ⟨q, hq⟩ := leftP_sum part l a
  rw [if_neg hp] at hq
  have := leftP_rng (part := part) (l := l) ha
  omega
theorem addP_sum3 (part : Int) (hp : 0 ≤ part ∧ part ≤ 6) (l : List It) (m : Ass Kp Int) (h : ∀ x ∈ l, x.1.size ≤ 32) : ∃ q1 q2 q3 : Int,
    sumQ 0 0 (slpG (addP part m l) []) = sumQ 0 0 (slpG m []) + (if 0 ≤ part ∧ part ≤ 0 then sumI l else 0) + q1 * 18446744073709551616 ∧
    sumQ 1 5 (slpG (addP part m l) []) = sumQ 1 5 (slpG m []) + (if 1 ≤ part ∧ part ≤ 5 then sumI l else 0) + q2 * 18446744073709551616 ∧
    sumQ 4 5 (slpG (addP part m l) []) = sumQ 4 5 (slpG m []) + (if 4 ≤ part ∧ part ≤ 5 then sumI l else 0) + q3 * 18446744073709551616 := by
  obtain ⟨q1, h1⟩ := addP_sum 0 0 part hp l m h
  obtain ⟨q2, h2⟩ := addP_sum 1 5 part hp l m h
  obtain ⟨q3, h3⟩ := addP_sum 4 5 part hp l m h
  exact ⟨q1, q2, q3, h1, h2, h3⟩
theorem nets_sum (gr be wk fi tx af od : List It) (g : Int) (m : Ass Kp Int) (l5 l6 : Int) (s0 : ∀ x ∈ gr, x.1.size ≤ 32) (s1 : ∀ x ∈ be, x.1.size ≤ 32) (s2 : ∀ x ∈ wk, x.1.size ≤ 32) (s3 : ∀ x ∈ fi, x.1.size ≤ 32) (s4 : ∀ x ∈ tx, x.1.size ≤ 32) (s5 : ∀ x ∈ af, x.1.size ≤ 32) (s6 : ∀ x ∈ od, x.1.size ≤ 32)
    (hm : m = addP 5 (addP 4 (addP 3 (addP 6 (addP 2 (addP 1 (addP 0 [] gr) be) wk) fi) tx) af) od) (hl5 : l5 = leftP 3 (leftP 6 (leftP 2 (leftP 1 (leftP 0 g gr) be) wk) fi) tx) (hl6 : l6 = leftP 4 l5 af) (hg : g = sumI gr) (hr : -9223372036854775808 ≤ g ∧ g ≤ 9223372036854775807)
    (ha : 0 ≤ sumI af ∧ (0 < sumI af → sumI af ≤ l5)) (ho : 0 ≤ sumI od ∧ (0 < sumI od → sumI od ≤ l6))
    (b0 : -1000000000000000000 ≤ sumQ 0 0 (slpG m []) ∧ sumQ 0 0 (slpG m []) ≤ 1000000000000000000) (b1 : -1000000000000000000 ≤ sumQ 1 5 (slpG m []) ∧ sumQ 1 5 (slpG m []) ≤ 1000000000000000000) (b2 : -1000000000000000000 ≤ sumQ 4 5 (slpG m []) ∧ sumQ 4 5 (slpG m []) ≤ 1000000000000000000) :
    0 ≤ sumQ 4 5 (slpG m []) ∧ (0 < sumQ 4 5 (slpG m []) → 0 ≤ sumQ 0 0 (slpG m []) - sumQ 1 5 (slpG m [])) := by
  have r0 := leftP_rng (part := 0) (l := gr) hr
  have r1 := leftP_rng (part := 1) (l := be) r0
  have r2 := leftP_rng (part := 2) (l := wk) r1
  have r3 := leftP_rng (part := 6) (l := fi) r2
  have r5 := leftP_rng (part := 3) (l := tx) r3
  rw [← hl5] at r5
  obtain ⟨q0, t0⟩ := leftP_sum 0 gr g
  obtain ⟨q1, t1⟩ := leftP_sum 1 be (leftP 0 g gr)
  obtain ⟨q2, t2⟩ := leftP_sum 2 wk (leftP 1 (leftP 0 g gr) be)
  obtain ⟨q3, t3⟩ := leftP_sum 6 fi (leftP 2 (leftP 1 (leftP 0 g gr) be) wk)
  obtain ⟨q4, t4⟩ := leftP_sum 3 tx (leftP 6 (leftP 2 (leftP 1 (leftP 0 g gr) be) wk) fi)
  have e6 := leftP_exact af l5 r5 4 (by omega) ha.1 (by omega)
  rw [← hl6] at e6
  rw [← hl5] at t4
  obtain ⟨a0, b0', c0, x0, y0, z0⟩ := addP_sum3 0 (by omega) gr [] s0
  obtain ⟨a1, b1', c1, x1, y1, z1⟩ := addP_sum3 1 (by omega) be _ s1
  obtain ⟨a2, b2', c2, x2, y2, z2⟩ := addP_sum3 2 (by omega) wk _ s2
  obtain ⟨a3, b3', c3, x3, y3, z3⟩ := addP_sum3 6 (by omega) fi _ s3
  obtain ⟨a4, b4', c4, x4, y4, z4⟩ := addP_sum3 3 (by omega) tx _ s4
  obtain ⟨a5, b5', c5, x5, y5, z5⟩ := addP_sum3 4 (by omega) af _ s5
  obtain ⟨a6, b6', c6, x6, y6, z6⟩ := addP_sum3 5 (by omega) od _ s6
  rw [x5, x4, x3, x2, x1, x0] at x6
  rw [y5, y4, y3, y2, y1, y0] at y6
  rw [z5, z4, z3, z2, z1, z0] at z6
  rw [← hm] at x6 y6 z6
  have n0 : sumQ 0 0 (slpG [] []) = 0 := rfl
  have n1 : sumQ 1 5 (slpG [] []) = 0 := rfl
  have n2 : sumQ 4 5 (slpG [] []) = 0 := rfl
  rw [n0] at x6
  rw [n1] at y6
  rw [n2] at z6
  simp at x6 y6 z6 t0 t1 t2 t3 t4
  omega
/-- What a step's slip adds up to: what is held back behind tax is never below nothing, and leaves the net not below it. -/
theorem nets_law {S : Ste} {M : Mon} {y i : Int} {L : List Li} {S' : Ste} (h : stepM S M = (S', (y, i, L), 0)) :
    slpE y i L = 0 ∧ 0 ≤ sumQ 4 5 L ∧ (0 < sumQ 4 5 L → 0 ≤ sumQ 0 0 L - sumQ 1 5 L) := by
  unfold stepM at h
  simp only [] at h
  split at h
  · rename_i h1; injection h with _ h; injection h with _ h; exact absurd h h1
  rename_i h1
  split at h
  · rename_i h2; injection h with _ h; injection h with _ h; exact absurd h h2
  rename_i h2
  split at h
  · rename_i h3; injection h with _ h; injection h with _ h; exact absurd h h3
  rename_i h3
  injection h with _ h
  injection h with h _
  injection h with hy h
  injection h with hi hL
  subst hy hi
  rw [hL] at h3
  have hE := Decidable.not_not.1 h3
  refine ⟨hE, ?_⟩
  have hbd := slpE_fit hE
  have hq := Decidable.not_not.1 h1
  have hs := Decidable.not_not.1 h2
  unfold prts at hq hL hs
  obtain ⟨k0, hq, e1⟩ := runs_cons0 hq
  rw [e1] at hL hs
  obtain ⟨k1, hq, e2⟩ := runs_cons0 hq
  rw [e2] at hL hs
  obtain ⟨k2, hq, e3⟩ := runs_cons0 hq
  rw [e3] at hL hs
  obtain ⟨k3, hq, e4⟩ := runs_cons0 hq
  rw [e4] at hL hs
  obtain ⟨k4, hq, e5⟩ := runs_cons0 hq
  rw [e5] at hL hs
  obtain ⟨k5, hq, e6⟩ := runs_cons0 hq
  rw [e6] at hL hs
  have k6 := hq
  clear e1 e2 e3 e4 e5 e6 hq h1 h2 h3
  obtain ⟨fg, fa⟩ := chkM_few k0
  have hg := sumC_sumI M.gr 0 k1
  simp only [runs] at hL hs
  unfold slpR at hL hs
  split at hs
  · simp at hs
  rename_i hok
  rw [if_neg hok] at hL
  simp only [] at hL
  have hq0 := sumQ_bd 0 0 L hbd.2
  have hq1 := sumQ_bd 1 5 L hbd.2
  have hq2 := sumQ_bd 4 5 L hbd.2
  have hn := hbd.1
  have hp := List.mergeSort_perm (slpG ((pf6 M (pf5 M (pf4 M (pf3 M (pf2 M (pf1 M (d0 S M)).1).1).1).1).1).1).ln []) (fun x y => decide (keyL x ≤ keyL y))
  have hp2 : L.Perm (slpG ((pf6 M (pf5 M (pf4 M (pf3 M (pf2 M (pf1 M (d0 S M)).1).1).1).1).1).1).ln []) := by rw [← hL]; exact hp
  rw [sumQ_perm hp2] at hq0 hq1 hq2 ⊢
  rw [sumQ_perm hp2, sumQ_perm hp2]
  refine nets_sum M.gr (takeL _ _ M.be M.li).1 (socL _ _ M.sc).2.1 (socL _ _ M.sc).2.2.1 [(taxS, _)] (afterL _ M.af).1 (attL _ _ M.od).1 _ _ _ _ fg.1 (takeL_few _ _ _ _).1 (socL_few _ _ _).1.1 (socL_few _ _ _).2.1 (fun x hx => by rw [List.mem_singleton.1 hx]; show taxS.size ≤ 32; decide) (afterL_few _ _ _ fa).1 (attL_few _ _ _).1 rfl rfl rfl (hg.trans (Int.zero_add _)) ?_ (afterL_sum _ _) (attL_sum _ _ _ k6) (by omega) (by omega) (by omega)
  have := fitB_bd (sumC_fit (M.gr.map Prod.snd) 0 rfl)
  omega
end Go.Proofs.YtgepbkldgnjpfaaGreatDoor

/- YearCuts, in plain: months cut anywhere. -/
namespace Go.Proofs.YtgepbkldgnjpfaaGreatDoor
open Go.RowKit Go.Sort Go.BigFrame

theorem resGo_cons (S0 now : Ste) (out : List Slp) (m : Mon) (r : List Mon) : resGo S0 now out (m :: r) = if (stepM now m).2.2 ≠ 0 then ([], S0, (stepM now m).2.2) else resGo S0 (stepM now m).1 (out ++ [(stepM now m).2.1]) r := rfl
theorem resGo_err (S0 : Ste) : ∀ (l r : List Mon) (now : Ste) (out : List Slp), (resGo S0 now out l).2.2 ≠ 0 → resGo S0 now out (l ++ r) = resGo S0 now out l
  | [], r, now, out, h => absurd rfl h
  | m :: l, r, now, out, h => by
    rw [List.cons_append, resGo_cons, resGo_cons]
    rw [resGo_cons] at h
    by_cases h0 : (stepM now m).2.2 ≠ 0
    · rw [if_pos h0, if_pos h0]
    · rw [if_neg h0] at h
      rw [if_neg h0, if_neg h0]
      exact resGo_err S0 l r _ _ h
theorem resGo_bad (S0 : Ste) : ∀ (l : List Mon) (now : Ste) (out : List Slp), (resGo S0 now out l).2.2 ≠ 0 → (resGo S0 now out l).1 = [] ∧ (resGo S0 now out l).2.1 = S0
  | [], now, out, h => absurd rfl h
  | m :: l, now, out, h => by
    rw [resGo_cons] at h ⊢
    by_cases h0 : (stepM now m).2.2 ≠ 0
    · rw [if_pos h0]; exact ⟨rfl, rfl⟩
    · rw [if_neg h0] at h ⊢
      exact resGo_bad S0 l _ _ h
/-- With other slips ahead, and another state to fall back on. -/
theorem resGo_shift (S0 S1 : Ste) : ∀ (l : List Mon) (now : Ste) (pre out : List Slp), (resGo S1 now out l).2.2 = (resGo S0 now (pre ++ out) l).2.2 ∧ ((resGo S0 now (pre ++ out) l).2.2 = 0 → (resGo S0 now (pre ++ out) l).1 = pre ++ (resGo S1 now out l).1 ∧ (resGo S0 now (pre ++ out) l).2.1 = (resGo S1 now out l).2.1)
  | [], now, pre, out => ⟨rfl, fun _ => ⟨rfl, rfl⟩⟩
  | m :: l, now, pre, out => by
    rw [resGo_cons, resGo_cons]
    by_cases h0 : (stepM now m).2.2 ≠ 0
    · rw [if_pos h0, if_pos h0]
      exact ⟨rfl, fun h => absurd h h0⟩
    · rw [if_neg h0, if_neg h0, List.append_assoc]
      exact resGo_shift S0 S1 l _ pre _
theorem cuts_law (L : List Mon) (k : Nat) (hl : L.length ≤ 4096) : ((foldM (L.take k)).2.2 ≠ 0 → (foldM L).2.2 = (foldM (L.take k)).2.2) ∧
    ((foldM (L.take k)).2.2 = 0 → (resM (foldM (L.take k)).2.1 (L.drop k)).2.2 = (foldM L).2.2 ∧ ((foldM L).2.2 ≠ 0 → (resM (foldM (L.take k)).2.1 (L.drop k)).1 = [] ∧ (resM (foldM (L.take k)).2.1 (L.drop k)).2.1 = (foldM (L.take k)).2.1) ∧
      ((foldM L).2.2 = 0 → (foldM L).1 = (foldM (L.take k)).1 ++ (resM (foldM (L.take k)).2.1 (L.drop k)).1 ∧ (foldM L).2.1 = (resM (foldM (L.take k)).2.1 (L.drop k)).2.1)) := by
  have e1 : foldM L = resGo Ste.none Ste.none [] L := by unfold foldM resM; rw [if_neg (by omega)]
  have e2 : foldM (L.take k) = resGo Ste.none Ste.none [] (L.take k) := by unfold foldM resM; rw [if_neg (by rw [List.length_take]; omega)]
  have e3 : ∀ S, resM S (L.drop k) = resGo S S [] (L.drop k) := fun S => by unfold resM; rw [if_neg (by rw [List.length_drop]; omega)]
  rw [e1, e2, e3]
  have hL : L = L.take k ++ L.drop k := (List.take_append_drop k L).symm
  generalize hA : resGo Ste.none Ste.none [] (L.take k) = A
  constructor
  · intro h
    have h2 := resGo_err Ste.none (L.take k) (L.drop k) Ste.none [] (by rw [hA]; exact h)
    rw [← hL, hA] at h2
    rw [h2]
  · intro h
    have h2 := resGo_append Ste.none (L.take k) (L.drop k) Ste.none [] (by rw [hA]; exact h)
    rw [← hL, hA] at h2
    have h3 := resGo_shift Ste.none A.2.1 (L.drop k) A.2.1 A.1 []
    rw [List.append_nil] at h3
    rw [h2]
    refine ⟨h3.1, fun hb => ?_, h3.2⟩
    rw [← h3.1] at hb
    exact resGo_bad _ _ _ _ hb
end Go.Proofs.YtgepbkldgnjpfaaGreatDoor
