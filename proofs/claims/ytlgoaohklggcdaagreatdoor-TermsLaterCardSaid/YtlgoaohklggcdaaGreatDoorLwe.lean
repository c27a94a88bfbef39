import Derived.Test.YtlgoaohklggcdaaGreatDoorLwx
import Derived.Test.YtlgoaohklggcdaaGreatDoorLwd
/- law16.TermsLater. Printed by gen/mklw16e.py. -/
namespace Go.Proofs.YtlgoaohklggcdaaGreatDoor
open Go.RowKit Go.Sort

theorem tv_of {B : Nat} {w : World} {A : Option Addr} {T : List Fa} (h : SlF w A T) (h2 : ∀ b off, A = some ⟨b, off, none⟩ → off = 0 ∧ B ≤ b) : SlN 0 w A T := ⟨h, fun b off e => ⟨(h2 b off e).1, Nat.zero_le _⟩⟩
theorem ofL_len (X : Ls) (F U : Int) : (ofL X F U).length ≤ (U - F).toNat := by
  unfold ofL
  split
  · exact Nat.zero_le _
  · split
    · have h1 := mrg_len (eT X) (dayP F (U - F).toNat) []
      rw [dayP_len] at h1
      simp only [List.length_nil] at h1
      show ((dayP F (U - F).toNat).foldl (mrgS (eT X)) []).length ≤ _
      omega
    · exact Nat.zero_le _
set_option maxHeartbeats 4000000 in
set_option maxRecDepth 100000 in
theorem run_neTd (x : Td) (a b : Int) (w : World) : (binOp .neq 50 (.agg #[.int .i64 a, .int .i64 b, .bool x.em, .int .i64 x.sa, .int .i64 x.pa, .int .i64 (x.h 0), .int .i64 (x.h 1), .int .i64 (x.h 2), .int .i64 (x.h 3), .int .i64 (x.h 4), .int .i64 (x.h 5), .int .i64 (x.h 6), .string x.co])  (.agg #[.int .i64 a, .int .i64 b, .bool x.em, .int .i64 x.sa, .int .i64 x.pa, .int .i64 (x.h 0), .int .i64 (x.h 1), .int .i64 (x.h 2), .int .i64 (x.h 3), .int .i64 (x.h 4), .int .i64 (x.h 5), .int .i64 (x.h 6), .string x.co])).run Tryz.prog w = .ok (.bool false) w := by
  have hw := eqW x.h x.h
  rw [show eq7 x.h x.h = true from by simp [eq7]] at hw
  go_simp
theorem ofE_zero {F U : Int} (h1 : -25567 ≤ F) (h2 : U ≤ 84006) : ofE F U = 0 := by
  unfold ofE
  split
  · rfl
  · rw [if_pos ⟨h1, h2⟩]
set_option maxHeartbeats 4000000 in
set_option maxRecDepth 100000 in
theorem lw_TermsLater (l : List Fa) (A : Option Addr) (ca : Nat) (f : Fa) (a b : Int) (w : World) (hl : l.length ≤ 9223372036854775807) (fl : ∀ f ∈ l, FitW f) (hf : FitW f) (hL : SlF w A l) (ha : 0 ≤ a ∧ a ≤ 4294967295) (hT : Tb w) (hC : Tab w) :
    Calls Tryz.prog 8 #[.slice A l.length ca, .agg (FA f), .agg #[.int .u32 a, .int .u32 b]] w fun e w' => e = .returned (.bool true) ∧ Below w.heap.size w w' := by
  have HAW : Hid (∀ W, Below w.heap.size w W → Calls Tryz.prog 16 #[] W fun e w' => e = .returned (.bool true) ∧ Below W.heap.size W w') := Lib.hid fun W hW => la_awake16 W (hT.below hW) (tabBel hC hW)
  obtain ⟨fb, hfb⟩ : ∃ z, w.heap.size = z := ⟨_, rfl⟩
  obtain ⟨ab, hab⟩ : ∃ z, fb + 1 = z := ⟨_, rfl⟩
  obtain ⟨w2, hw2⟩ : ∃ z, (w.alloc (.cells (FA f) 61)).alloc (.cells #[.int .u32 a, .int .u32 b] 24) = z := ⟨_, rfl⟩
  obtain ⟨k1, k2, hb2⟩ := bkk2 w _ _ _ _ hfb hab hw2
  have HK1 := Lib.hid k1
  have HK2 := Lib.hid k2
  have HB2 := Lib.hid hb2
  have HL0 := Lib.hid hL
  have HT0 := Lib.hid hT
  have HC0 := Lib.hid hC
  have HFB : Hid (w.heap.size ≤ fb ∧ fb < ab) := Lib.hid (by omega)
  have HFL := Lib.hid fl
  have HFF := Lib.hid hf
  have F2 : w2.cell? ⟨fb, 2, none⟩ = some (.int .i64 f.ki) := k1.cell 2
  have F0 : w2.cell? ⟨fb, 0, none⟩ = some (.int .u32 f.id) := k1.cell 0
  have G0 : w2.frozen? ⟨fb, 0, none⟩ = false := k1.frozen 0
  have HE := Lib.hid (And.intro hfb (And.intro hab hw2))
  unfold FA at hw2
  clear hfb hab hw2 k1 k2 hb2 hL hT hC fl hf
  unfold FA at HE ⊢
  go_enter Tryz.func8, Tryz.ntmps8
  go_upto_region 1 with fail
  rw [HE.out.2.2, HE.out.1, HE.out.2.1]
  clear HE
  by_cases h40 : (40 : Int) < (l.length : Int)
  · clear F0 G0
    go_wp2_with fail
    refine (HAW.out _ HB2.out).mono ?_
    rintro e w3 ⟨rfl, hb3⟩
    have HF := Lib.hid (bTrans HB2.out hb3)
    clear hb3
    go_wp2
    go_ret
    exact ⟨rfl, HF.out⟩
  by_cases h18 : f.ki = 18
  · clear G0
    rw [h18] at F2
    go_wp2_with fail
    refine (HAW.out _ HB2.out).mono ?_
    rintro e w3 ⟨rfl, hb3⟩
    have HF := Lib.hid (bTrans HB2.out hb3)
    clear hb3
    go_wp2
    go_ret
    exact ⟨rfl, HF.out⟩
  obtain ⟨w3, hw3⟩ : ∃ z, w2.setCell ⟨fb, 0, none⟩ (.int .u32 0) = z := ⟨_, rfl⟩
  have HK3 : Hid (Bk fb 61 (FA { f with id := 0 }) w3) := Lib.hid (by rw [← hw3]; exact HK1.out.set_ 0 (.int .u32 0))
  have HA3 : Hid (Bk ab 24 #[.int .u32 a, .int .u32 b] w3) := Lib.hid (by rw [← hw3]; exact (heap_setCell_other w2 ⟨fb, 0, none⟩ ab _ (Nat.ne_of_gt HFB.out.2)).trans HK2.out)
  have HW3 : Hid (w2.setCell ⟨fb, 0, none⟩ (.int .u32 0) = w3) := Lib.hid hw3
  have HB3 : Hid (Below w.heap.size w w3) := Lib.hid (by rw [← hw3]; exact HB2.out.setCell (p := ⟨fb, 0, none⟩) HFB.out.1 _)
  have hki : (f.ki == 18) = false := beq_eq_false_iff_ne.2 h18
  go_upto_region 4 with fail
  clear hw3 F0 G0 F2
  obtain ⟨f0, hf0⟩ : ∃ f0 : Fa, { f with id := 0 } = f0 := ⟨_, rfl⟩
  have HF0 : Hid (FitW f0) := Lib.hid (by
    have h := HFF.out
    rw [← hf0]
    exact ⟨⟨Int.le_refl 0, (by decide : (0 : Int) ≤ 4294967295)⟩, h.pe, h.ki, h.fr, h.tO, h.nu, h.cO, h.tX⟩)
  have HF0E : Hid (f0.id = 0 ∧ f0.pe = f.pe ∧ f0.ki = f.ki ∧ f0.fr = f.fr) := Lib.hid (by rw [← hf0]; exact ⟨rfl, rfl, rfl, rfl⟩)
  rw [hf0] at HK3
  clear hf0
  have hl40 : l.length ≤ 40 := by omega
  have hpb : 0 ≤ f.pe ∧ f.pe ≤ 4294967295 := HFF.out.pe
  have hfr : -9223372036854775808 ≤ f.fr ∧ f.fr ≤ 9223372036854775807 := HFF.out.fr
  obtain ⟨T1, hT1⟩ : ∃ T, tellL [] l = T := ⟨_, rfl⟩
  obtain ⟨T2, hT2⟩ : ∃ T, tellL [] (l ++ [f0]) = T := ⟨_, rfl⟩
  have hT1l : T1.length ≤ l.length := by rw [← hT1]; exact told_len l
  have hT2l : T2.length ≤ 41 := by rw [← hT2]; have := told_len (l ++ [f0]); rw [List.length_append, List.length_singleton] at this; omega
  have HX1 : Hid (∀ f ∈ T1, f.tx.size ≤ 1000000) := Lib.hid (by rw [← hT1]; exact told_tx HFL.out)
  have HFL2 : Hid (∀ g ∈ l ++ [f0], FitW g) := Lib.hid fun g hg => by
    rcases List.mem_append.1 hg with h | h
    · exact HFL.out g h
    · rw [List.mem_singleton.1 h]; exact HF0.out
  have HX2 : Hid (∀ f ∈ T2, f.tx.size ≤ 1000000) := Lib.hid (by rw [← hT2]; exact told_tx HFL2.out)
  have HSAME : Hid (∀ p F U, p ≠ f.pe ∨ U ≤ f.fr → ofL (lsOf T1 p) F U = ofL (lsOf T2 p) F U ∧ ∀ q ∈ ofL (lsOf T1 p) F U, encO (lsOf T1 p) q = encO (lsOf T2 p) q) := Lib.hid fun p F U hc => by
    have h0 := HF0E.out
    have hTo : Told T1 := by rw [← hT1]; exact told_tell Told.nil
    have hE : T2 = (addL T1 f0).1 := by rw [← hT2, tellL_snoc, hT1]
    rw [hE]
    refine runs_same fun d h1 h2 => later_on hTo h0.1 (by rw [h0.2.2.1]; exact h18) (by omega) ?_
    rcases hc with h | h
    · exact .inl (by rw [h0.2.1]; exact h)
    · exact .inr (by rw [h0.2.2.2]; omega)
  have HL3 : Hid (∀ W, Below w3.heap.size w3 W → SlF W A l) := Lib.hid fun W hW => by
    exact HL0.out.below (bTrans HB3.out hW)
  have HTD1 : Hid (∀ W, Below w3.heap.size w3 W → Calls Tryz.prog 17 #[.slice A l.length ca] W fun e w' => ∃ A2, e = .returned (.agg #[.slice A2 T1.length T1.length]) ∧ SlN 0 w' A2 T1 ∧ Below W.heap.size W w') := Lib.hid fun W hW => by
    have h := la_toldN l A ca W (by omega) HFL.out (HL3.out W hW) (HT0.out.below (bTrans HB3.out hW))
    rw [hT1] at h
    exact h.mono fun e w' ⟨⟨A2, h1, h2, h3⟩, h4⟩ => ⟨A2, h1, tv_of h2 h3, h4⟩
  have HTD2 : Hid (∀ A' c W, Below w3.heap.size w3 W → SlF W A' (l ++ [f0]) → Calls Tryz.prog 17 #[.slice A' (l ++ [f0]).length c] W fun e w' => ∃ A2, e = .returned (.agg #[.slice A2 T2.length T2.length]) ∧ SlN 0 w' A2 T2 ∧ Below W.heap.size W w') := Lib.hid fun A' c W hW hs => by
    have h := la_toldN (l ++ [f0]) A' c W (by simp; omega) HFL2.out hs (HT0.out.below (bTrans HB3.out hW))
    rw [hT2] at h
    exact h.mono fun e w' ⟨⟨A2, h1, h2, h3⟩, h4⟩ => ⟨A2, h1, tv_of h2 h3, h4⟩
  have HFC : Hid (∀ W, Below w3.heap.size w3 W → W.cell? ⟨fb, 0, none⟩ = some (.int .u32 f0.id) ∧ W.cell? ⟨fb, 1, none⟩ = some (.int .u32 f0.pe) ∧ W.cell? ⟨fb, 2, none⟩ = some (.int .i64 f0.ki) ∧ W.cell? ⟨fb, 3, none⟩ = some (.int .i64 f0.fr) ∧ W.cell? ⟨fb, 4, none⟩ = some (.int .i64 f0.to) ∧ W.cell? ⟨fb, 5, none⟩ = some (.string f0.co) ∧ W.cell? ⟨fb, 6, none⟩ = some (.int .i64 f0.nu) ∧ W.cell? ⟨fb, 7, none⟩ = some (.string f0.tx)) := Lib.hid fun W hW => by
    have k := HK3.out
    have h0 := HF0E.out
    exact ⟨bCell hW (k.cell 0), bCell hW (k.cell 1), bCell hW (k.cell 2), bCell hW (k.cell 3), bCell hW (k.cell 4), bCell hW (k.cell 5), bCell hW (k.cell 6), bCell hW (k.cell 7)⟩
  clear hT1 hT2
  go_cut [7, 8] from 27 to 35 (fun xv yv wx => ∃ (vb ub : Nat) (A1 A2 : Option Addr), xv = .pointer (some ⟨vb, 0, none⟩) ∧ yv = .pointer (some ⟨ub, 0, none⟩) ∧ Hid (Bk vb 27 #[.slice A1 T1.length T1.length] wx ∧ Bk ub 27 #[.slice A2 T2.length T2.length] wx ∧ SlF wx A1 T1 ∧ SlF wx A2 T2 ∧ Below w3.heap.size w3 wx))
  case first =>
    refine wp_region_umk (SPS [(0, Sp.val (.slice A l.length ca)), (4, Sp.val (.pointer (some ⟨fb, 0, none⟩))), (27, Sp.val (.slice A l.length ca)), (28, spTv T1), (29, spLit w3.heap.size), (30, spSl encF 8 l), (31, spOwF w3.heap.size l), (32, Sp.val (.agg #[.int .u32 f0.id, .int .u32 f0.pe, .int .i64 f0.ki, .int .i64 f0.fr, .int .i64 f0.to, .string f0.co, .int .i64 f0.nu, .string f0.tx])), (33, spSl encF 8 [f0]), (34, spSl encF 8 (l ++ [f0])), (35, spTv T2)]) [(29, 4), (29, 7), (30, 4), (30, 7), (31, 7), (33, 7)] [⟨9, 11, 7, 28, 27⟩, ⟨10, 12, 8, 35, 27⟩] [27, 28, 29, 30, 31, 32, 33, 34, 35, 7, 8] rfl (by rfl) (by kernel_rfl) (SPS.st _) ?_ ?_ ?_ (by decide) (by rfl) ?_ (opsK_all ?_) ?_
    · intro p hp t v w b y x _ hk h
      have hT : p.T = 27 := by
        simp only [List.mem_cons, List.not_mem_nil, or_false] at hp
        rcases hp with rfl | rfl <;> rfl
      rw [hT] at hk
      exact sps_put (cons_all (put_val _) (cons_all (put_val _) (cons_all (put_val _) (cons_all (put_Tv _) (cons_all (put_Lit _) (cons_all (put_Sl _) (cons_all (put_OwF _ _) (cons_all (put_val _) (cons_all (put_Sl _) (cons_all (put_Sl _) (cons_all (put_Tv _) (nil_all)))))))))))) hk h
    · intro p hp v w s hs
      simp only [List.mem_cons, List.not_mem_nil, or_false] at hp
      rcases hp with rfl | rfl
      all_goals cases hs
    · intro p hp
      simp only [List.mem_cons, List.not_mem_nil, or_false] at hp
      rcases hp with rfl | rfl
      all_goals exact ⟨_, rfl, (by kernel_rfl), (by kernel_rfl)⟩
    · exact sps_start (cons_all rfl (cons_all rfl nil_all))
    · refine opsK_cons (by
       exact kx_n (opOk_move rfl rfl (.inl rfl) (by kernel_rfl) (fun _ _ h => sps rfl (h.get rfl))) (by kernel_rfl) (by decide)) ?_
      refine opsK_cons (by
       exact kx_n (opOk_callg (fun a => #[a.eval (.tmp 27)]) rfl rfl (.inl rfl) (fun a => by simp only [List.map_toArray, List.map_cons, List.map_nil] <;> rfl) (fun args W => by go_simp) (fun a W hW hsp => by
          have e27 : a.eval (.tmp 27) = .slice A l.length ca := (hsp 27 (by kernel_rfl)).get rfl
          simp only [e27]
          exact (HTD1.out _ hW).mono fun e w' ⟨A2, he, hs, hb⟩ => ⟨_, he, hb, sps rfl ⟨A2, rfl, hs⟩⟩)) (by kernel_rfl) (by decide)) ?_
      refine opsK_cons (by
       exact kx_n (opOk_new rfl (.inl rfl) (fun a W hW hsp => ⟨.slice (some ⟨W.heap.size, 0, none⟩) 0 0, .cells #[] 61, by
          unfold execOp
          go_simp, sps rfl ⟨W.heap.size, rfl, hW.size, Bk.new _ _ _⟩⟩)) (by kernel_rfl) (by decide)) ?_
      refine opsK_cons (by
       exact kx_n (opOk_run rfl (.inl rfl) (fun a W hW hsp => by
          have e0 : a.eval (.tmp 0) = .slice A l.length ca := (hsp 0 (by kernel_rfl)).get rfl
          refine ⟨.slice A l.length ca, ?_, sps rfl ⟨A, ca, rfl, HL3.out _ hW⟩⟩
          unfold execOp
          simp only [e0]
          go_simp)) (by kernel_rfl) (by decide)) ?_
      refine opsK_cons (by
       exact kx_m (opOkM_app encF_len encF_one (t := 22) (e := 61) Tryz.underlying22 factInfo rfl (by decide) (l := []) (m := l) rfl rfl rfl (by kernel_rfl) (by kernel_rfl) (by kernel_rfl) (spLit w3.heap.size) (spSl encF 8 l) rfl rfl (fun v w ⟨h, e, hB, hk⟩ => by rw [e]; exact own_empty hk hB) (fun _ _ h => h) (by simp; omega) (by decide) (fun D e v w h => by cases e; exact h) (by decide) (cons_all (.inr (.inr (.inr fun _ _ _ _ _ _ h _ _ _ => h))) (cons_all (.inr (.inr (.inr fun _ _ _ _ _ _ h _ _ _ => h))) (cons_all (.inr (.inr (.inr fun _ _ _ _ _ _ h _ _ _ => h))) (cons_all (.inr (.inr (.inr keep_lit_Tv))) (cons_all (.inr (.inl (by simp))) (cons_all (.inr (.inl (by simp))) (cons_all (.inl rfl) (cons_all (.inr (.inr (.inr fun _ _ _ _ _ _ h _ _ _ => h))) (cons_all (.inr (.inr (.inr keep_lit_Sl))) (cons_all (.inr (.inr (.inl (by kernel_rfl)))) (cons_all (.inr (.inr (.inr keep_lit_Tv))) (nil_all))))))))))))) (by decide)) ?_
      refine opsK_cons (by
       exact kx_n (opOk_load (p := ⟨fb, 0, none⟩) rfl rfl (.inl rfl) (by kernel_rfl) (fun _ _ h => h.get rfl) (fun W hW => by
          obtain ⟨c0, c1, c2, c3, c4, c5, c6, c7⟩ := HFC.out _ hW
          exact ⟨.agg #[.int .u32 f0.id, .int .u32 f0.pe, .int .i64 f0.ki, .int .i64 f0.fr, .int .i64 f0.to, .string f0.co, .int .i64 f0.nu, .string f0.tx], by go_simp, sps rfl rfl⟩)) (by kernel_rfl) (by decide)) ?_
      refine opsK_cons (by
       exact kx_n (opOk_new rfl (.inl rfl) (fun a W hW hsp => by
          have e32 : a.eval (.tmp 32) = .agg (FA f0) := (hsp 32 (by kernel_rfl)).get rfl
          exact ⟨_, _, build_one rfl e32 W, sps rfl ⟨some ⟨W.heap.size, 0, none⟩, 1, rfl, one_new f0 W⟩⟩)) (by kernel_rfl) (by decide)) ?_
      refine opsK_cons (by
       exact kx_m (opOkM_app encF_len encF_one (t := 22) (e := 61) Tryz.underlying22 factInfo rfl (by decide) (l := l) (m := [f0]) rfl rfl rfl (by kernel_rfl) (by kernel_rfl) (by kernel_rfl) (spOwF w3.heap.size l) (spSl encF 8 [f0]) rfl rfl (fun _ _ h => h) (fun _ _ h => h) (by simp; omega) (by decide) (fun D e v w h => by
            cases e
            obtain ⟨A', c, e1, _, h2⟩ := own_sl encF_len h
            exact ⟨A', c, e1, h2⟩) (by decide) (cons_all (.inr (.inr (.inr fun _ _ _ _ _ _ h _ _ _ => h))) (cons_all (.inr (.inr (.inr fun _ _ _ _ _ _ h _ _ _ => h))) (cons_all (.inr (.inr (.inr fun _ _ _ _ _ _ h _ _ _ => h))) (cons_all (.inr (.inr (.inr (keep_own_Tv hT1l)))) (cons_all (.inr (.inl (by simp))) (cons_all (.inr (.inl (by simp))) (cons_all (.inr (.inl (by simp))) (cons_all (.inr (.inr (.inr fun _ _ _ _ _ _ h _ _ _ => h))) (cons_all (.inr (.inl (by simp))) (cons_all (.inl rfl) (cons_all (.inr (.inr (.inl (by kernel_rfl)))) (nil_all))))))))))))) (by decide)) ?_
      refine opsK_cons (by
       exact kx_n (opOk_callg (fun a => #[a.eval (.tmp 34)]) rfl rfl (.inl rfl) (fun a => by simp only [List.map_toArray, List.map_cons, List.map_nil] <;> rfl) (fun args W => by go_simp) (fun a W hW hsp => by
          obtain ⟨A', c, h34, hs34⟩ := (hsp 34 (by kernel_rfl)).get rfl
          have e34 : a.eval (.tmp 34) = .slice A' (l ++ [f0]).length c := h34
          simp only [e34]
          exact (HTD2.out _ _ _ hW hs34).mono fun e w' ⟨A2, he, hs, hb⟩ => ⟨_, he, hb, sps rfl ⟨A2, rfl, hs⟩⟩)) (by kernel_rfl) (by decide)) ?_
      refine opsK_cons (by
       exact kx_alloc ⟨9, 11, 7, 28, 27⟩ (.slice none 0 0) (by simp) rfl rfl rfl (by decide) (by decide) (fun _ _ => run_newV rfl)) ?_
      refine opsK_cons (by
       exact kx_alloc ⟨10, 12, 8, 35, 27⟩ (.slice none 0 0) (by simp) rfl rfl rfl (by decide) (by decide) (fun _ _ => run_newV rfl)) ?_
      refine opsK_cons (by
       exact kx_store ⟨9, 11, 7, 28, 27⟩ (by simp) rfl rfl rfl (by kernel_rfl) (by kernel_rfl) (by kernel_rfl) (by decide) (by intro j hj; simp at hj) (fun v w h => by
          obtain ⟨A2, h1, _⟩ := h.get rfl
          exact ⟨A2, _, _, h1⟩) (fun _ _ _ _ _ _ _ h1 h2 h3 => run_putV rfl h1 h2 h3)) ?_
      refine opsK_cons (by
       exact kx_store ⟨10, 12, 8, 35, 27⟩ (by simp) rfl rfl rfl (by kernel_rfl) (by kernel_rfl) (by kernel_rfl) (by decide) (by intro j hj; simp at hj) (fun v w h => by
          obtain ⟨A2, h1, _⟩ := h.get rfl
          exact ⟨A2, _, _, h1⟩) (fun _ _ _ _ _ _ _ h1 h2 h3 => run_putV rfl h1 h2 h3)) ?_
      exact opsK_nil
    · intro vs W hb hsp hmk
      obtain ⟨vb, y1, e7, hv, hy1, z28⟩ := hmk ⟨9, 11, 7, 28, 27⟩ (by simp)
      obtain ⟨ub, y2, e8, hu, hy2, z35⟩ := hmk ⟨10, 12, 8, 35, 27⟩ (by simp)
      obtain ⟨A1, q28, s1⟩ := (hsp 28 (by simp)).get rfl
      obtain ⟨A2, q35, s2⟩ := (hsp 35 (by simp)).get rfl
      have q1 : y1 = .slice A1 T1.length T1.length := by have h := z28.symm.trans q28; simpa using h
      have q2 : y2 = .slice A2 T2.length T2.length := by have h := z35.symm.trans q35; simpa using h
      subst q1
      subst q2
      clear z28 z35 q28 q35 hmk hsp
      simp only [putAll]
      go_simp
      go_step
      go_meet
      exact ⟨vb, ub, A1, A2, rfl, rfl, Lib.hid ⟨hy1, hy2, s1.1, s2.1, hb⟩⟩
  case rest =>
  obtain ⟨vb, ub, A1, A2, rfl, rfl, HM⟩ := hcut
  obtain ⟨w4, rfl⟩ : ∃ x : World, x = wc := ⟨_, rfl⟩
  have HB4 : Hid (Below w3.heap.size w3 w4) := Lib.hid HM.out.2.2.2.2
  have HBW4 : Hid (Below w.heap.size w w4) := Lib.hid (bTrans HB3.out HB4.out)
  have HWI : Hid (∀ W, Calls Tryz.prog 18 #[.int .u32 a, .int .u16 (b % 65536)] W fun e w' => (∃ F n : Int, e = .returned (.agg #[.int .i64 F, .int .i64 (F + n)]) ∧ -25567 ≤ F ∧ F ≤ 83432 ∧ 0 ≤ n ∧ n ≤ 399) ∧ Below W.heap.size W w') := Lib.hid fun W => la_within a (b % 65536) W ha (by omega)
  have AB0 : w4.cell? ⟨ab, 0, none⟩ = some (.int .u32 a) := bCell HB4.out (HA3.out.cell 0)
  have AB1 : w4.cell? ⟨ab, 1, none⟩ = some (.int .u32 b) := bCell HB4.out (HA3.out.cell 1)
  clear HTD1 HTD2 HL0 HL3 HT0 HFL HFL2 HFF
  go_wp2_with fail
  refine (HWI.out _).mono ?_
  rintro e w5 ⟨⟨F, m, rfl, hF1, hF2, hm1, hm2⟩, hb5⟩
  obtain ⟨sb, hsb⟩ : ∃ z, w5.heap.size = z := ⟨_, rfl⟩
  obtain ⟨w6, hw6⟩ : ∃ z, w5.alloc (.cells #[.int .i64 F, .int .i64 (F + m)] 31) = z := ⟨_, rfl⟩
  have HS6 : Hid (Bk sb 31 #[.int .i64 F, .int .i64 (F + m)] w6) := Lib.hid (by rw [← hw6, ← hsb]; exact Bk.new _ _ _)
  have HB6 : Hid (Below w4.heap.size w4 w6) := Lib.hid (by rw [← hw6]; exact bTrans hb5 (bAlloc _ _))
  have HSB : Hid (w4.heap.size ≤ sb) := Lib.hid (by rw [← hsb]; exact hb5.size)
  have hpe : f0.pe = f.pe := HF0E.out.2.1
  have P1 : w6.cell? ⟨fb, 1, none⟩ = some (.int .u32 f.pe) := by rw [← hpe]; exact (HFC.out _ (bTrans HB4.out HB6.out)).2.1
  have HE := Lib.hid (And.intro hsb hw6)
  clear hsb hw6 hb5 AB0 AB1 hpe
  go_upto_region 6 with fail
  rw [HE.out.1, HE.out.2]
  clear HE
  go_upto_region 7 with fail
  obtain ⟨p1, hp1⟩ : ∃ p1 : Int, (f.pe + 1) % 4294967296 = p1 := ⟨_, rfl⟩
  have hpn : p1 ≠ f.pe := by omega
  rw [hp1]
  clear hp1
  obtain ⟨pb, hpbb⟩ : ∃ z, w6.heap.size = z := ⟨_, rfl⟩
  obtain ⟨w7, hw7⟩ : ∃ z, w6.alloc (.cells #[.int .u32 f.pe, .int .u32 p1] 23) = z := ⟨_, rfl⟩
  have HR7 : Hid (Bk sb 31 #[.int .i64 F, .int .i64 (F + m)] w7 ∧ Bk pb 23 #[.int .u32 f.pe, .int .u32 p1] w7 ∧ Below w4.heap.size w4 w7) := Lib.hid (by
    have hb7 : Below w6.heap.size w6 w7 := by rw [← hw7]; exact bAlloc _ _
    exact ⟨bk_bel HS6.out hb7, by rw [← hw7, ← hpbb]; exact Bk.new _ _ _, bTrans HB6.out hb7⟩)
  have HPB : Hid (pb ≠ sb) := Lib.hid (by have := HS6.out.lt; omega)
  have hsb7 := HSB.out
  rw [hpbb, hw7]
  clear hpbb hw7 HS6 HB6 P1
  have hfr2 : f0.fr = f.fr := HF0E.out.2.2.2
  have hpe2 : f0.pe = f.pe := HF0E.out.2.1
  have HFC2 : Hid (∀ W, Below w4.heap.size w4 W → W.cell? ⟨fb, 1, none⟩ = some (.int .u32 f.pe) ∧ W.cell? ⟨fb, 3, none⟩ = some (.int .i64 f.fr) ∧ W.cell? ⟨ab, 0, none⟩ = some (.int .u32 a) ∧ W.cell? ⟨ab, 1, none⟩ = some (.int .u32 b) ∧ W.cell? ⟨vb, 0, none⟩ = some (.slice A1 T1.length T1.length) ∧ W.cell? ⟨ub, 0, none⟩ = some (.slice A2 T2.length T2.length)) := Lib.hid fun W hW => by
    have h := HFC.out _ (bTrans HB4.out hW)
    have hz := bTrans HB4.out hW
    rw [← hpe2, ← hfr2]
    exact ⟨h.2.1, h.2.2.2.1, bCell hz (HA3.out.cell 0), bCell hz (HA3.out.cell 1), bCell hW (HM.out.1.cell 0), bCell hW (HM.out.2.1.cell 0)⟩
  have HOF1 : Hid (∀ p F U W, -25567 ≤ F → U ≤ 84006 → Below w4.heap.size w4 W → Calls Tryz.prog 19 #[.agg #[.slice A1 T1.length T1.length], .int .u32 p, .agg #[.int .i64 F, .int .i64 U]] W fun e w' => ∃ A c, e = .returned (.tuple #[.slice A (ofL (lsOf T1 p) F U).length c, .int .i64 0]) ∧ Sl (encO (lsOf T1 p)) 13 w' w'.heap.size A (ofL (lsOf T1 p) F U) ∧ Below W.heap.size W w') := Lib.hid (fun p F U W a1 a3 hW => by
    have h := tm_Of T1 A1 T1.length p F U W (by omega) (HM.out.2.2.1.below hW) HX1.out (by omega) (by omega) (tabBel HC0.out (bTrans HBW4.out hW))
    rw [ofE_zero a1 a3] at h
    refine h.mono fun e w' ⟨⟨A, c, h1, h2⟩, h3⟩ => ?_
    obtain ⟨A', c', e2, _, h4⟩ := own_sl (encO_len _) h2
    injection e2 with e2 _ _
    subst e2
    exact ⟨_, c, h1, h4, h3⟩)
  have HOF2 : Hid (∀ p F U W, -25567 ≤ F → U ≤ 84006 → Below w4.heap.size w4 W → Calls Tryz.prog 19 #[.agg #[.slice A2 T2.length T2.length], .int .u32 p, .agg #[.int .i64 F, .int .i64 U]] W fun e w' => ∃ A c, e = .returned (.tuple #[.slice A (ofL (lsOf T2 p) F U).length c, .int .i64 0]) ∧ Sl (encO (lsOf T2 p)) 13 w' w'.heap.size A (ofL (lsOf T2 p) F U) ∧ Below W.heap.size W w') := Lib.hid (fun p F U W a1 a3 hW => by
    have h := tm_Of T2 A2 T2.length p F U W (by omega) (HM.out.2.2.2.1.below hW) HX2.out (by omega) (by omega) (tabBel HC0.out (bTrans HBW4.out hW))
    rw [ofE_zero a1 a3] at h
    refine h.mono fun e w' ⟨⟨A, c, h1, h2⟩, h3⟩ => ?_
    obtain ⟨A', c', e2, _, h4⟩ := own_sl (encO_len _) h2
    injection e2 with e2 _ _
    subst e2
    exact ⟨_, c, h1, h4, h3⟩)
  clear hfr2 hpe2 HFC HM HX1 HX2 HC0 HA3 HK3 HB4 HF0E
  go_loopw [49] (fun iv wr => ∃ (k : Nat) (F U : Int), k ≤ 2 ∧ iv = .int .i64 k ∧ (-25567 ≤ F ∧ F ≤ 84006) ∧ (-9223372036854775808 ≤ U ∧ U ≤ 84006) ∧ Hid (Bk sb 31 #[.int .i64 F, .int .i64 U] wr ∧ Bk pb 23 #[.int .u32 f.pe, .int .u32 p1] wr ∧ Below w4.heap.size w4 wr)) (fun iv _ => 2 - (intOf iv).toNat)
  case atStart => exact ⟨0, F, F + m, by omega, rfl, by omega, by omega, HR7⟩
  case round =>
    obtain ⟨k, F', U', hk, rfl, hF', hU', HR⟩ := hrel
    by_cases hlt : k < 2
    · have hlt2 : (k : Int) < 2 := by omega
      obtain ⟨FC1, FC3, FA0, FA1, _, _⟩ := HFC2.out _ HR.out.2.2
      have P0 : wr.cell? ⟨pb, 0, none⟩ = some (.int .u32 f.pe) := HR.out.2.1.cell 0
      have P1 : wr.cell? ⟨pb, 1, none⟩ = some (.int .u32 p1) := HR.out.2.1.cell 1
      have S0 : wr.cell? ⟨sb, 0, none⟩ = some (.int .i64 F') := HR.out.1.cell 0
      have S1 : wr.cell? ⟨sb, 1, none⟩ = some (.int .i64 U') := HR.out.1.cell 1
      have D0 : wr.frozen? ⟨sb, 0, none⟩ = false := HR.out.1.frozen 0
      have D1 : wr.frozen? ⟨sb, 1, none⟩ = false := HR.out.1.frozen 1
      have hk2 : k = 0 ∨ k = 1 := by omega
      rcases hk2 with rfl | rfl
      · have HFIN : Hid (∀ z, Bk sb 31 #[.int .i64 F', z] (wr.setCell ⟨sb, 1, none⟩ z) ∧ Bk pb 23 #[.int .u32 f.pe, .int .u32 p1] (wr.setCell ⟨sb, 1, none⟩ z) ∧ Below w4.heap.size w4 (wr.setCell ⟨sb, 1, none⟩ z)) := Lib.hid fun z => ⟨HR.out.1.set_ 1 z, (heap_setCell_other wr ⟨sb, 1, none⟩ pb _ HPB.out).trans HR.out.2.1, HR.out.2.2.setCell (p := ⟨sb, 1, none⟩) HSB.out z⟩
        clear FA0 FA1
        go_upto_region 12 with fail
        obtain ⟨U2, hU2⟩ : ∃ z : Int, min U' f.fr = z := ⟨_, rfl⟩
        have hUb : -9223372036854775808 ≤ U2 ∧ U2 ≤ 84006 := by omega
        have hpu : U2 ≤ f.fr := by omega
        rw [hU2]
        obtain ⟨w9, hw9⟩ : ∃ z, wr.setCell ⟨sb, 1, none⟩ (.int .i64 U2) = z := ⟨_, rfl⟩
        have HR9 : Hid (Bk sb 31 #[.int .i64 F', .int .i64 U2] w9 ∧ Bk pb 23 #[.int .u32 f.pe, .int .u32 p1] w9 ∧ Below w4.heap.size w4 w9) := Lib.hid (by rw [← hw9]; exact HFIN.out _)
        rw [hw9]
        clear hw9 HFIN HR S0 S1 D0 D1 P0 P1 FC1 FC3 hU2
        obtain ⟨R, hR⟩ : ∃ R, ofL (lsOf T1 (f.pe)) F' U2 = R := ⟨_, rfl⟩
        have hsm := HSAME.out (f.pe) F' U2 (.inr hpu)
        have HEN : Hid (∀ q ∈ R, encO (lsOf T1 (f.pe)) q = encO (lsOf T2 (f.pe)) q) := Lib.hid (by rw [← hR]; exact hsm.2)
        have hRl : R.length ≤ 200000 := by rw [← hR]; exact Nat.le_trans (ofL_len _ _ _) (by omega)
        have HO1 := HOF1.out (f.pe) F' U2 w9 (by omega) (by omega) HR9.out.2.2
        have HO2 := Lib.hid (fun W hW => HOF2.out (f.pe) F' U2 W (by omega) (by omega) hW)
        rw [hR] at HO1
        rw [← hsm.1, hR] at HO2
        have HO1 := Lib.hid HO1
        clear hR hsm
        have FV : w9.cell? ⟨vb, 0, none⟩ = some (.slice A1 T1.length T1.length) := (HFC2.out _ HR9.out.2.2).2.2.2.2.1
        have S0 : w9.cell? ⟨sb, 0, none⟩ = some (.int .i64 F') := HR9.out.1.cell 0
        have S1 : w9.cell? ⟨sb, 1, none⟩ = some (.int .i64 U2) := HR9.out.1.cell 1
        go_wp2_with fail
        refine HO1.out.mono ?_
        rintro e w10 ⟨Ax, cx, rfl, hx, hb10⟩
        have HR10 : Hid (Bk sb 31 #[.int .i64 F', .int .i64 U2] w10 ∧ Bk pb 23 #[.int .u32 f.pe, .int .u32 p1] w10 ∧ Below w4.heap.size w4 w10) := Lib.hid ⟨bk_bel HR9.out.1 hb10, bk_bel HR9.out.2.1 hb10, bTrans HR9.out.2.2 hb10⟩
        have HX10 := Lib.hid hx
        clear hx hb10 FV S0 S1 HO1 HR9
        have FU : w10.cell? ⟨ub, 0, none⟩ = some (.slice A2 T2.length T2.length) := (HFC2.out _ HR10.out.2.2).2.2.2.2.2
        have S0 : w10.cell? ⟨sb, 0, none⟩ = some (.int .i64 F') := HR10.out.1.cell 0
        have S1 : w10.cell? ⟨sb, 1, none⟩ = some (.int .i64 U2) := HR10.out.1.cell 1
        go_wp2_with fail
        refine (HO2.out _ HR10.out.2.2).mono ?_
        rintro e w11 ⟨Ay, cy, rfl, hy, hb11⟩
        have HR11 : Hid (Bk sb 31 #[.int .i64 F', .int .i64 U2] w11 ∧ Bk pb 23 #[.int .u32 f.pe, .int .u32 p1] w11 ∧ Below w4.heap.size w4 w11) := Lib.hid ⟨bk_bel HR10.out.1 hb11, bk_bel HR10.out.2.1 hb11, bTrans HR10.out.2.2 hb11⟩
        have HX11 := Lib.hid (sl_bel HX10.out hb11)
        have HY11 := Lib.hid hy
        clear hy hb11 FU S0 S1 HO2 HR10 HX10
        go_wp2
        go_loopw [16] (fun iv wq => ∃ j : Nat, j ≤ R.length ∧ iv = .int .i64 j ∧ Hid (Below w11.heap.size w11 wq)) (fun iv _ => R.length - (intOf iv).toNat)
        case atStart => exact ⟨0, Nat.zero_le _, rfl, Lib.hid (Below.refl _ _)⟩
        case round =>
          obtain ⟨j, hj, rfl, HQ⟩ := hrel
          by_cases hjl : j < R.length
          · obtain ⟨⟨q1, q2⟩, hp⟩ : ∃ q, R[j]? = some q := ⟨_, List.getElem?_eq_getElem hjl⟩
            obtain ⟨g1, o1, rfl, _, hat1⟩ := HX11.out (by intro h; simp [h] at hjl)
            obtain ⟨g2, o2, rfl, _, hat2⟩ := HY11.out (by intro h; simp [h] at hjl)
            obtain ⟨t, ht⟩ : ∃ t, onX (lsOf T1 (f.pe)) q1 = t := ⟨_, rfl⟩
            have henc : encO (lsOf T1 (f.pe)) (q1, q2) = (tdC { t with fr := q1, «to» := q2 }).toList := by rw [← ht]; rfl
            have henc2 : encO (lsOf T2 (f.pe)) (q1, q2) = (tdC { t with fr := q1, «to» := q2 }).toList := by rw [← HEN.out _ (List.mem_of_getElem? hp)]; exact henc
            obtain ⟨K0, K1, K2, K3, K4, K5, K6, K7, K8, K9, K10, K11, K12⟩ : (wr.cell? ⟨g1, o1 + j * 13, none⟩ = some (.int .i64 q1) ∧ wr.cell? ⟨g1, o1 + j * 13 + 1, none⟩ = some (.int .i64 q2) ∧ wr.cell? ⟨g1, o1 + j * 13 + 2, none⟩ = some (.bool t.em) ∧ wr.cell? ⟨g1, o1 + j * 13 + 3, none⟩ = some (.int .i64 t.sa) ∧ wr.cell? ⟨g1, o1 + j * 13 + 4, none⟩ = some (.int .i64 t.pa) ∧ wr.cell? ⟨g1, o1 + j * 13 + 5, none⟩ = some (.int .i64 (t.h 0)) ∧ wr.cell? ⟨g1, o1 + j * 13 + 6, none⟩ = some (.int .i64 (t.h 1)) ∧ wr.cell? ⟨g1, o1 + j * 13 + 7, none⟩ = some (.int .i64 (t.h 2)) ∧ wr.cell? ⟨g1, o1 + j * 13 + 8, none⟩ = some (.int .i64 (t.h 3)) ∧ wr.cell? ⟨g1, o1 + j * 13 + 9, none⟩ = some (.int .i64 (t.h 4)) ∧ wr.cell? ⟨g1, o1 + j * 13 + 10, none⟩ = some (.int .i64 (t.h 5)) ∧ wr.cell? ⟨g1, o1 + j * 13 + 11, none⟩ = some (.int .i64 (t.h 6)) ∧ wr.cell? ⟨g1, o1 + j * 13 + 12, none⟩ = some (.string t.co)) := cell13 (td := { t with fr := q1, «to» := q2 }) hp henc (fun i x hx j u hu => bCell HQ.out (hat1 i x hx j u hu))
            obtain ⟨M0, M1, M2, M3, M4, M5, M6, M7, M8, M9, M10, M11, M12⟩ : (wr.cell? ⟨g2, o2 + j * 13, none⟩ = some (.int .i64 q1) ∧ wr.cell? ⟨g2, o2 + j * 13 + 1, none⟩ = some (.int .i64 q2) ∧ wr.cell? ⟨g2, o2 + j * 13 + 2, none⟩ = some (.bool t.em) ∧ wr.cell? ⟨g2, o2 + j * 13 + 3, none⟩ = some (.int .i64 t.sa) ∧ wr.cell? ⟨g2, o2 + j * 13 + 4, none⟩ = some (.int .i64 t.pa) ∧ wr.cell? ⟨g2, o2 + j * 13 + 5, none⟩ = some (.int .i64 (t.h 0)) ∧ wr.cell? ⟨g2, o2 + j * 13 + 6, none⟩ = some (.int .i64 (t.h 1)) ∧ wr.cell? ⟨g2, o2 + j * 13 + 7, none⟩ = some (.int .i64 (t.h 2)) ∧ wr.cell? ⟨g2, o2 + j * 13 + 8, none⟩ = some (.int .i64 (t.h 3)) ∧ wr.cell? ⟨g2, o2 + j * 13 + 9, none⟩ = some (.int .i64 (t.h 4)) ∧ wr.cell? ⟨g2, o2 + j * 13 + 10, none⟩ = some (.int .i64 (t.h 5)) ∧ wr.cell? ⟨g2, o2 + j * 13 + 11, none⟩ = some (.int .i64 (t.h 6)) ∧ wr.cell? ⟨g2, o2 + j * 13 + 12, none⟩ = some (.string t.co)) := cell13 (td := { t with fr := q1, «to» := q2 }) hp henc2 (fun i x hx j u hu => bCell HQ.out (hat2 i x hx j u hu))
            have hjl2 : (j : Int) < (R.length : Int) := by omega
            have hq := run_neTd t q1 q2
            clear hp hat1 hat2 ht henc henc2
            go_upto_region 19 with fail
            go_quiet (fail)
            rename_i nq
            have HQn : Hid (Below w11.heap.size w11 (wr.drewN nq)) := Lib.hid (HQ.out.trans ((bDrewN wr nq).mono HQ.out.size))
            clear K0 K1 K2 K3 K4 K5 K6 K7 K8 K9 K10 K11 K12 M0 M1 M2 M3 M4 M5 M6 M7 M8 M9 M10 M11 M12 hq HQ
            go_wp2
            exact ⟨⟨j + 1, by omega, by go_num, HQn⟩, by simp [intOf]; omega⟩
          · obtain rfl : j = R.length := by omega
            have HRE : Hid (Bk sb 31 #[.int .i64 F', .int .i64 U2] wr ∧ Bk pb 23 #[.int .u32 f.pe, .int .u32 p1] wr ∧ Below w4.heap.size w4 wr) := Lib.hid ⟨bk_bel HR11.out.1 HQ.out, bk_bel HR11.out.2.1 HQ.out, bTrans HR11.out.2.2 HQ.out⟩
            go_wp2
            exact ⟨⟨0 + 1, F', U2, by omega, by go_num, by omega, by omega, HRE⟩, by simp [intOf]⟩
      · clear S0 S1 FC3
        go_wp2_with fail
        refine (HWI.out _).mono ?_
        rintro e w8 ⟨⟨F2, m2, rfl, hF1, hF2, hm1, hm2⟩, hb8⟩
        have S0 : w8.cell? ⟨sb, 0, none⟩ = some (.int .i64 F') := bCell hb8 (HR.out.1.cell 0)
        have S1 : w8.cell? ⟨sb, 1, none⟩ = some (.int .i64 U') := bCell hb8 (HR.out.1.cell 1)
        have E0 : w8.frozen? ⟨sb, 0, none⟩ = false := (bk_bel HR.out.1 hb8).frozen 0
        have E1 : w8.frozen? ⟨sb, 1, none⟩ = false := (bk_bel HR.out.1 hb8).frozen 1
        have HFIN : Hid (∀ y z, Bk sb 31 #[y, z] ((w8.setCell ⟨sb, 0, none⟩ y).setCell ⟨sb, 1, none⟩ z) ∧ Bk pb 23 #[.int .u32 f.pe, .int .u32 p1] ((w8.setCell ⟨sb, 0, none⟩ y).setCell ⟨sb, 1, none⟩ z) ∧ Below w4.heap.size w4 ((w8.setCell ⟨sb, 0, none⟩ y).setCell ⟨sb, 1, none⟩ z)) := Lib.hid fun y z => ⟨((bk_bel HR.out.1 hb8).set_ 0 y).set_ 1 z, (heap_setCell_other _ ⟨sb, 1, none⟩ pb _ HPB.out).trans ((heap_setCell_other w8 ⟨sb, 0, none⟩ pb _ HPB.out).trans (bk_bel HR.out.2.1 hb8)), ((bTrans HR.out.2.2 hb8).setCell (p := ⟨sb, 0, none⟩) HSB.out y).setCell (p := ⟨sb, 1, none⟩) HSB.out z⟩
        clear HR hb8 D0 D1 P0 P1 FC1 FA0 FA1
        go_upto_region 12 with fail
        obtain ⟨U2, hU2⟩ : ∃ z : Int, F2 + m2 = z := ⟨_, rfl⟩
        have hUb : -9223372036854775808 ≤ U2 ∧ U2 ≤ 84006 := by omega
        rw [hU2]
        obtain ⟨w9, hw9⟩ : ∃ z, (w8.setCell ⟨sb, 0, none⟩ (.int .i64 F2)).setCell ⟨sb, 1, none⟩ (.int .i64 U2) = z := ⟨_, rfl⟩
        have HR9 : Hid (Bk sb 31 #[.int .i64 F2, .int .i64 U2] w9 ∧ Bk pb 23 #[.int .u32 f.pe, .int .u32 p1] w9 ∧ Below w4.heap.size w4 w9) := Lib.hid (by rw [← hw9]; exact HFIN.out _ _)
        rw [hw9]
        clear hw9 HFIN S0 S1 E0 E1 hU2
        obtain ⟨R, hR⟩ : ∃ R, ofL (lsOf T1 (p1)) F2 U2 = R := ⟨_, rfl⟩
        have hsm := HSAME.out (p1) F2 U2 (.inl hpn)
        have HEN : Hid (∀ q ∈ R, encO (lsOf T1 (p1)) q = encO (lsOf T2 (p1)) q) := Lib.hid (by rw [← hR]; exact hsm.2)
        have hRl : R.length ≤ 200000 := by rw [← hR]; exact Nat.le_trans (ofL_len _ _ _) (by omega)
        have HO1 := HOF1.out (p1) F2 U2 w9 (by omega) (by omega) HR9.out.2.2
        have HO2 := Lib.hid (fun W hW => HOF2.out (p1) F2 U2 W (by omega) (by omega) hW)
        rw [hR] at HO1
        rw [← hsm.1, hR] at HO2
        have HO1 := Lib.hid HO1
        clear hR hsm
        have FV : w9.cell? ⟨vb, 0, none⟩ = some (.slice A1 T1.length T1.length) := (HFC2.out _ HR9.out.2.2).2.2.2.2.1
        have S0 : w9.cell? ⟨sb, 0, none⟩ = some (.int .i64 F2) := HR9.out.1.cell 0
        have S1 : w9.cell? ⟨sb, 1, none⟩ = some (.int .i64 U2) := HR9.out.1.cell 1
        go_wp2_with fail
        refine HO1.out.mono ?_
        rintro e w10 ⟨Ax, cx, rfl, hx, hb10⟩
        have HR10 : Hid (Bk sb 31 #[.int .i64 F2, .int .i64 U2] w10 ∧ Bk pb 23 #[.int .u32 f.pe, .int .u32 p1] w10 ∧ Below w4.heap.size w4 w10) := Lib.hid ⟨bk_bel HR9.out.1 hb10, bk_bel HR9.out.2.1 hb10, bTrans HR9.out.2.2 hb10⟩
        have HX10 := Lib.hid hx
        clear hx hb10 FV S0 S1 HO1 HR9
        have FU : w10.cell? ⟨ub, 0, none⟩ = some (.slice A2 T2.length T2.length) := (HFC2.out _ HR10.out.2.2).2.2.2.2.2
        have S0 : w10.cell? ⟨sb, 0, none⟩ = some (.int .i64 F2) := HR10.out.1.cell 0
        have S1 : w10.cell? ⟨sb, 1, none⟩ = some (.int .i64 U2) := HR10.out.1.cell 1
        go_wp2_with fail
        refine (HO2.out _ HR10.out.2.2).mono ?_
        rintro e w11 ⟨Ay, cy, rfl, hy, hb11⟩
        have HR11 : Hid (Bk sb 31 #[.int .i64 F2, .int .i64 U2] w11 ∧ Bk pb 23 #[.int .u32 f.pe, .int .u32 p1] w11 ∧ Below w4.heap.size w4 w11) := Lib.hid ⟨bk_bel HR10.out.1 hb11, bk_bel HR10.out.2.1 hb11, bTrans HR10.out.2.2 hb11⟩
        have HX11 := Lib.hid (sl_bel HX10.out hb11)
        have HY11 := Lib.hid hy
        clear hy hb11 FU S0 S1 HO2 HR10 HX10
        go_wp2
        go_loopw [16] (fun iv wq => ∃ j : Nat, j ≤ R.length ∧ iv = .int .i64 j ∧ Hid (Below w11.heap.size w11 wq)) (fun iv _ => R.length - (intOf iv).toNat)
        case atStart => exact ⟨0, Nat.zero_le _, rfl, Lib.hid (Below.refl _ _)⟩
        case round =>
          obtain ⟨j, hj, rfl, HQ⟩ := hrel
          by_cases hjl : j < R.length
          · obtain ⟨⟨q1, q2⟩, hp⟩ : ∃ q, R[j]? = some q := ⟨_, List.getElem?_eq_getElem hjl⟩
            obtain ⟨g1, o1, rfl, _, hat1⟩ := HX11.out (by intro h; simp [h] at hjl)
            obtain ⟨g2, o2, rfl, _, hat2⟩ := HY11.out (by intro h; simp [h] at hjl)
            obtain ⟨t, ht⟩ : ∃ t, onX (lsOf T1 (p1)) q1 = t := ⟨_, rfl⟩
            have henc : encO (lsOf T1 (p1)) (q1, q2) = (tdC { t with fr := q1, «to» := q2 }).toList := by rw [← ht]; rfl
            have henc2 : encO (lsOf T2 (p1)) (q1, q2) = (tdC { t with fr := q1, «to» := q2 }).toList := by rw [← HEN.out _ (List.mem_of_getElem? hp)]; exact henc
            obtain ⟨K0, K1, K2, K3, K4, K5, K6, K7, K8, K9, K10, K11, K12⟩ : (wr.cell? ⟨g1, o1 + j * 13, none⟩ = some (.int .i64 q1) ∧ wr.cell? ⟨g1, o1 + j * 13 + 1, none⟩ = some (.int .i64 q2) ∧ wr.cell? ⟨g1, o1 + j * 13 + 2, none⟩ = some (.bool t.em) ∧ wr.cell? ⟨g1, o1 + j * 13 + 3, none⟩ = some (.int .i64 t.sa) ∧ wr.cell? ⟨g1, o1 + j * 13 + 4, none⟩ = some (.int .i64 t.pa) ∧ wr.cell? ⟨g1, o1 + j * 13 + 5, none⟩ = some (.int .i64 (t.h 0)) ∧ wr.cell? ⟨g1, o1 + j * 13 + 6, none⟩ = some (.int .i64 (t.h 1)) ∧ wr.cell? ⟨g1, o1 + j * 13 + 7, none⟩ = some (.int .i64 (t.h 2)) ∧ wr.cell? ⟨g1, o1 + j * 13 + 8, none⟩ = some (.int .i64 (t.h 3)) ∧ wr.cell? ⟨g1, o1 + j * 13 + 9, none⟩ = some (.int .i64 (t.h 4)) ∧ wr.cell? ⟨g1, o1 + j * 13 + 10, none⟩ = some (.int .i64 (t.h 5)) ∧ wr.cell? ⟨g1, o1 + j * 13 + 11, none⟩ = some (.int .i64 (t.h 6)) ∧ wr.cell? ⟨g1, o1 + j * 13 + 12, none⟩ = some (.string t.co)) := cell13 (td := { t with fr := q1, «to» := q2 }) hp henc (fun i x hx j u hu => bCell HQ.out (hat1 i x hx j u hu))
            obtain ⟨M0, M1, M2, M3, M4, M5, M6, M7, M8, M9, M10, M11, M12⟩ : (wr.cell? ⟨g2, o2 + j * 13, none⟩ = some (.int .i64 q1) ∧ wr.cell? ⟨g2, o2 + j * 13 + 1, none⟩ = some (.int .i64 q2) ∧ wr.cell? ⟨g2, o2 + j * 13 + 2, none⟩ = some (.bool t.em) ∧ wr.cell? ⟨g2, o2 + j * 13 + 3, none⟩ = some (.int .i64 t.sa) ∧ wr.cell? ⟨g2, o2 + j * 13 + 4, none⟩ = some (.int .i64 t.pa) ∧ wr.cell? ⟨g2, o2 + j * 13 + 5, none⟩ = some (.int .i64 (t.h 0)) ∧ wr.cell? ⟨g2, o2 + j * 13 + 6, none⟩ = some (.int .i64 (t.h 1)) ∧ wr.cell? ⟨g2, o2 + j * 13 + 7, none⟩ = some (.int .i64 (t.h 2)) ∧ wr.cell? ⟨g2, o2 + j * 13 + 8, none⟩ = some (.int .i64 (t.h 3)) ∧ wr.cell? ⟨g2, o2 + j * 13 + 9, none⟩ = some (.int .i64 (t.h 4)) ∧ wr.cell? ⟨g2, o2 + j * 13 + 10, none⟩ = some (.int .i64 (t.h 5)) ∧ wr.cell? ⟨g2, o2 + j * 13 + 11, none⟩ = some (.int .i64 (t.h 6)) ∧ wr.cell? ⟨g2, o2 + j * 13 + 12, none⟩ = some (.string t.co)) := cell13 (td := { t with fr := q1, «to» := q2 }) hp henc2 (fun i x hx j u hu => bCell HQ.out (hat2 i x hx j u hu))
            have hjl2 : (j : Int) < (R.length : Int) := by omega
            have hq := run_neTd t q1 q2
            clear hp hat1 hat2 ht henc henc2
            go_upto_region 19 with fail
            go_quiet (fail)
            rename_i nq
            have HQn : Hid (Below w11.heap.size w11 (wr.drewN nq)) := Lib.hid (HQ.out.trans ((bDrewN wr nq).mono HQ.out.size))
            clear K0 K1 K2 K3 K4 K5 K6 K7 K8 K9 K10 K11 K12 M0 M1 M2 M3 M4 M5 M6 M7 M8 M9 M10 M11 M12 hq HQ
            go_wp2
            exact ⟨⟨j + 1, by omega, by go_num, HQn⟩, by simp [intOf]; omega⟩
          · obtain rfl : j = R.length := by omega
            have HRE : Hid (Bk sb 31 #[.int .i64 F2, .int .i64 U2] wr ∧ Bk pb 23 #[.int .u32 f.pe, .int .u32 p1] wr ∧ Below w4.heap.size w4 wr) := Lib.hid ⟨bk_bel HR11.out.1 HQ.out, bk_bel HR11.out.2.1 HQ.out, bTrans HR11.out.2.2 HQ.out⟩
            go_wp2
            exact ⟨⟨1 + 1, F2, U2, by omega, by go_num, by omega, by omega, HRE⟩, by simp [intOf]⟩
    · obtain rfl : k = 2 := by omega
      have HB0 := Lib.hid (bTrans HBW4.out HR.out.2.2)
      go_wp2_with fail
      refine (HAW.out _ HB0.out).mono ?_
      rintro e w9 ⟨rfl, hb9⟩
      have HF := Lib.hid (bTrans HB0.out hb9)
      clear hb9
      go_wp2
      go_ret
      exact ⟨rfl, HF.out⟩
end Go.Proofs.YtlgoaohklggcdaaGreatDoor
