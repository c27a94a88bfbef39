import Derived.Test.YtdkbbngedjiheaaGreatDoorTu3
/- The walk of StoreTurns. -/
namespace Go.Proofs.YtdkbbngedjiheaaGreatDoor
open Go.RowKit Go.Sort

/-- A fact without its ID. -/
def noId (f : Fa) : Fa := { f with id := 0 }

set_option maxHeartbeats 8000000 in
set_option maxRecDepth 100000 in
theorem lw_Turns (l : List Fa) (A : Option Addr) (ca : Nat) (f g : Fa) (w : World) (hl : (l.length + 2) * 72 ≤ 140737488355328) (fl : ∀ x ∈ l, FitW x) (ff : FitW f) (fg : FitW g) (hL : SlF w A l) (hT : Tb w) :
    Calls Tryz.prog 3 #[.slice A l.length ca, .agg (FA f), .agg (FA g)] w fun e w' => e = .returned (.bool true) ∧ Below w.heap.size w w' := by
  obtain ⟨fb, hfb⟩ : ∃ x, w.heap.size = x := ⟨_, rfl⟩
  obtain ⟨gb, hgb⟩ : ∃ x, fb + 1 = x := ⟨_, rfl⟩
  obtain ⟨w2, hw2⟩ : ∃ x, (w.alloc (.cells (FA f) 26)).alloc (.cells (FA g) 26) = x := ⟨_, rfl⟩
  have hb2 : Below w.heap.size w w2 := by rw [← hw2]; exact bTrans (bAlloc w _) (bAlloc _ _)
  have hf2 : Bk fb 26 (FA f) w2 := by rw [← hw2, ← hfb]; exact (Bk.new w _ _).grows (.of_alloc _ _)
  have hg2 : Bk gb 26 (FA g) w2 := by
    have h := Bk.new (w.alloc (.cells (FA f) 26)) 26 (FA g)
    rw [hw2] at h
    have e : (w.alloc (.cells (FA f) 26)).heap.size = gb := by simp; omega
    rwa [e] at h
  have hne : fb ≠ gb := by omega
  obtain ⟨w3, hw3⟩ : ∃ x, (w2.setCell ⟨fb, 0, none⟩ (.int .u32 0)).setCell ⟨gb, 0, none⟩ (.int .u32 0) = x := ⟨_, rfl⟩
  have HF3 : Hid (Bk fb 26 (FA (noId f)) w3) := Lib.hid (by rw [← hw3]; exact (heap_setCell_other _ ⟨gb, 0, none⟩ fb _ hne).trans (hf2.set_ 0 _))
  have HG3 : Hid (Bk gb 26 (FA (noId g)) w3) := Lib.hid (by
    rw [← hw3]
    have h : Bk gb 26 (FA g) (w2.setCell ⟨fb, 0, none⟩ (.int .u32 0)) := (heap_setCell_other _ ⟨fb, 0, none⟩ gb _ (Ne.symm hne)).trans hg2
    exact h.set_ 0 _)
  have HB3 : Hid (Below w.heap.size w w3) := Lib.hid (by rw [← hw3]; exact (hb2.setCell (p := ⟨fb, 0, none⟩) (by simp; omega) _).setCell (p := ⟨gb, 0, none⟩) (by simp; omega) _)
  have hc1 : w2.cell? ⟨fb, 0, none⟩ = some (.int .u32 f.id) := hf2.cell 0
  have hc2 : w2.cell? ⟨gb, 0, none⟩ = some (.int .u32 g.id) := hg2.cell 0
  have hc3 : w2.frozen? ⟨fb, 0, none⟩ = false := hf2.frozen 0
  have hc4 : w2.frozen? ⟨gb, 0, none⟩ = false := hg2.frozen 0
  have HT : Hid (Tb w3) := Lib.hid (hT.below HB3.out)
  have HL : Hid (SlF w3 A l) := Lib.hid (hL.below HB3.out)
  have HAW : Hid (∀ W, Below w3.heap.size w3 W → Calls Tryz.prog 16 #[] W fun e w' => e = .returned (.bool true) ∧ Below W.heap.size W w') := Lib.hid fun W hW => la_awake W (HT.out.below hW)
  have HFW : Hid (∀ x ∈ l ++ [noId f, noId g], FitW x) := Lib.hid (by
    intro x hx
    rcases List.mem_append.1 hx with h | h
    · exact fl x h
    · simp only [List.mem_cons, List.not_mem_nil, or_false] at h
      rcases h with rfl | rfl
      · exact ⟨⟨Int.le_refl 0, (by show (0 : Int) ≤ 4294967295; decide)⟩, ff.pe, ff.ki, ff.fr, ff.tO, ff.nu⟩
      · exact ⟨⟨Int.le_refl 0, (by show (0 : Int) ≤ 4294967295; decide)⟩, fg.pe, fg.ki, fg.fr, fg.tO, fg.nu⟩)
  obtain ⟨b1, h1⟩ : ∃ z, shortB (l ++ [noId f, noId g]) = z := ⟨_, rfl⟩
  obtain ⟨b2, h2⟩ : ∃ z, (f.ki == 18) = z := ⟨_, rfl⟩
  obtain ⟨b3, h3⟩ : ∃ z, (g.ki == 18) = z := ⟨_, rfl⟩
  obtain ⟨b4, h4⟩ : ∃ z, (f.pe == g.pe) = z := ⟨_, rfl⟩
  obtain ⟨b5, h5⟩ : ∃ z, (f.ki == g.ki) = z := ⟨_, rfl⟩
  have HSH : Hid (∀ v W, Below w3.heap.size w3 W → OwnF w3.heap.size v (l ++ [noId f, noId g]) W → Calls Tryz.prog 15 #[v] W fun e w' => ∃ v', e = .returned v' ∧ Below W.heap.size W w' ∧ v' = .bool b1) := Lib.hid fun v W _ ho => by
    obtain ⟨D, cd, rfl, hs⟩ := ho.sl
    exact (la_short (l ++ [noId f, noId g]) D cd W (by simp; omega) hs).mono fun e w' ⟨he, hb⟩ => ⟨_, he, hb, by rw [h1]⟩
  have HLF : Hid (∀ W, Below w3.heap.size w3 W → At8 W fb 0 (noId f) ∧ At8 W gb 0 (noId g)) := Lib.hid fun W hW => ⟨(bk8 HF3.out).below hW, (bk8 HG3.out).below hW⟩
  have HLL := Lib.hid hl
  have HH := Lib.hid (And.intro h1 (And.intro h2 (And.intro h3 (And.intro h4 h5))))
  have b2Q : (f.ki == 18) = b2 := h2
  have b3Q : (g.ki == 18) = b3 := h3
  have b4Q : (f.pe == g.pe) = b4 := h4
  have b5Q : (f.ki == g.ki) = b5 := h5
  have HQ := Lib.hid (And.intro b2Q (And.intro b3Q (And.intro b4Q b5Q)))
  clear b2Q b3Q b4Q b5Q h1 h2 h3 h4 h5 hb2 hf2 hg2 hne fl ff fg hL hT hl
  unfold FA at hw2
  unfold FA
  go_enter Tryz.func3, Tryz.ntmps3
  go_upto_region 2 with fail
  clear hfb hgb hw2 hw3 hc1 hc2 hc3 hc4
  obtain ⟨tt, htt⟩ : ∃ z, (!b1 || b2 || b3 || b4 && b5) = z := ⟨_, rfl⟩
  have HTT := Lib.hid htt
  clear htt
  go_cut [56] (fun s56 wc => s56 = .bool tt ∧ Hid (Below w3.heap.size w3 wc))
  case first =>
    obtain ⟨b2Q, b3Q, b4Q, b5Q⟩ := HQ.out
    refine wp_region_putd (SPt ⟨w3.heap.size, fb, gb, A, ca, l, noId f, noId g, b1, b2, b3, b4, b5⟩) klt [24, 25, 26, 27, 28, 29, 30, 31, 32, 33, 34, 35, 36, 37, 38, 39, 40, 41, 42, 43, 44, 45, 46, 47, 48, 49, 50, 51, 52, 53, 54, 55, 56] (by rfl) (by kernel_rfl) (SPt.st _) (by kernel_rfl) (by rfl) ?_ (ops_all3 ?_) ?_
    · intro t hnd
      by_cases h : t ∈ [0, 4, 5, 24, 25, 26, 27, 28, 29, 30, 31, 32, 33, 34, 35, 36, 37, 38, 39, 40, 41, 42, 43, 44, 45, 46, 47, 48, 49, 50, 51, 52, 53, 54, 55, 56]
      · simp only [List.mem_cons, List.not_mem_nil, or_false] at h
        rcases h with rfl | rfl | rfl | h
        · exact rfl
        · exact rfl
        · exact rfl
        · exfalso
          rcases h with rfl | rfl | rfl | rfl | rfl | rfl | rfl | rfl | rfl | rfl | rfl | rfl | rfl | rfl | rfl | rfl | rfl | rfl | rfl | rfl | rfl | rfl | rfl | rfl | rfl | rfl | rfl | rfl | rfl | rfl | rfl | rfl | rfl
          all_goals exact Bool.noConfusion (show false = true from hnd)
      · exact SPt.free _ _ _ _ h
    · refine ops_cons (by exact opOk2_val rfl rfl (fun a W hb hsp => y_new (v := .slice (some ⟨W.heap.size, 0, none⟩) 0 0) (w' := W.alloc (.cells #[] 26)) (SPt.st _) (by simp only [execOp]; go_simp) hb (bAlloc _ _) ⟨W.heap.size, rfl, hb.size, Bk.new _ _ _⟩)) ?_
      refine ops_cons (by exact opOk2_val rfl rfl (y_move rfl (by kernel_rfl) (.inl rfl) (fun _ _ h => h))) ?_
      refine ops_cons (by exact opOk2_val rfl rfl (y_app1 rfl rfl (by kernel_rfl) (by kernel_rfl) rfl HL.out HLL.out)) ?_
      refine ops_cons (by exact opOk2_val rfl rfl (y_load (p := .pointer (some ⟨fb, 0, none⟩)) rfl (by kernel_rfl) (.inl rfl) (fun _ _ h => h) (fun W hW => by
            obtain ⟨⟨c0, c1, c2, c3, c4, c5, c6, c7⟩, ⟨d0, d1, d2, d3, d4, d5, d6, d7⟩⟩ := HLF.out W hW
            simp only [Nat.zero_add] at c1 c2 c3 c4 c5 c6 c7 d1 d2 d3 d4 d5 d6 d7
            exact ⟨.agg (FA (noId f)), by go_simp, rfl⟩))) ?_
      refine ops_cons (by exact opOk2_val rfl rfl (y_load (p := .pointer (some ⟨gb, 0, none⟩)) rfl (by kernel_rfl) (.inl rfl) (fun _ _ h => h) (fun W hW => by
            obtain ⟨⟨c0, c1, c2, c3, c4, c5, c6, c7⟩, ⟨d0, d1, d2, d3, d4, d5, d6, d7⟩⟩ := HLF.out W hW
            simp only [Nat.zero_add] at c1 c2 c3 c4 c5 c6 c7 d1 d2 d3 d4 d5 d6 d7
            exact ⟨.agg (FA (noId g)), by go_simp, rfl⟩))) ?_
      refine ops_cons (by exact opOk2_val rfl rfl (fun a W hb hsp => by
            have e1 : a.eval (.tmp 27) = .agg (FA (noId f)) := hsp 27 (by kernel_rfl) (.inl rfl)
            have e2 : a.eval (.tmp 28) = .agg (FA (noId g)) := hsp 28 (by kernel_rfl) (.inl rfl)
            exact y_new (v := .slice (some ⟨W.heap.size, 0, none⟩) 2 2) (SPt.st _) (build_two rfl e1 e2 W) hb (bAlloc _ _) ⟨W.heap.size, rfl, two_new (noId f) (noId g) W⟩)) ?_
      refine ops_cons (by exact opOk2_val rfl rfl (y_app2 rfl rfl (by kernel_rfl) (by kernel_rfl) (by kernel_rfl) rfl HLL.out)) ?_
      refine ops_cons (by exact opOk2_call1 rfl rfl rfl (SPt.st _) (by kernel_rfl) (.inl rfl) (fun args W => by go_simp) (fun v W hW h => HSH.out v W hW h)) ?_
      refine ops_cons (by exact opOk2_val rfl rfl (y_not (c := b1) rfl (by kernel_rfl) (.inl rfl) (fun _ _ h => h) (fun _ => rfl))) ?_
      refine ops_cons (by exact opOk2_val rfl rfl (y_move rfl (by kernel_rfl) (.inl rfl) (fun _ _ h => h))) ?_
      refine ops_cons (by exact opOk2_if (K := b1 = true) rfl rfl rfl (by kernel_rfl) rfl (fun v w h k => by rw [show v = .bool (!b1) from h, k]; rfl) (fun v w h k => by rw [show v = .bool (!b1) from h]; intro he; exact k (by simpa only [Value.bool.injEq, Bool.not_eq_false'] using he)) (fun hk => y_field (p := .pointer (some ⟨fb, 0, none⟩)) (p' := .pointer (some ⟨fb, 2, none⟩)) rfl (by kernel_rfl) (.inl rfl) (fun _ _ h => h) (fun W => by go_simp) (fun _ _ => rfl)) (fun k w => fun h => absurd h k) (by simp)) ?_
      refine ops_cons (by exact opOk2_if (K := b1 = true) rfl rfl rfl (by kernel_rfl) rfl (fun v w h k => by rw [show v = .bool (!b1) from h, k]; rfl) (fun v w h k => by rw [show v = .bool (!b1) from h]; intro he; exact k (by simpa only [Value.bool.injEq, Bool.not_eq_false'] using he)) (fun hk => y_load (p := .pointer (some ⟨fb, 2, none⟩)) rfl (by kernel_rfl) (.inl rfl) (fun _ _ h => h hk) (fun W hW => by
            obtain ⟨⟨c0, c1, c2, c3, c4, c5, c6, c7⟩, ⟨d0, d1, d2, d3, d4, d5, d6, d7⟩⟩ := HLF.out W hW
            simp only [Nat.zero_add] at c1 c2 d1 d2
            exact ⟨.int .i64 f.ki, by go_simp <;> rfl, fun _ => rfl⟩)) (fun k w => fun h => absurd h k) (by simp)) ?_
      refine ops_cons (by exact opOk2_if (K := b1 = true) rfl rfl rfl (by kernel_rfl) rfl (fun v w h k => by rw [show v = .bool (!b1) from h, k]; rfl) (fun v w h k => by rw [show v = .bool (!b1) from h]; intro he; exact k (by simpa only [Value.bool.injEq, Bool.not_eq_false'] using he)) (fun hk => y_binc (x := .int .i64 f.ki) (y := .bool b2) rfl (by kernel_rfl) (.inl rfl) (fun _ _ h => h hk) (fun W => by have hq := b2Q; go_simp) (fun _ _ => rfl)) (fun k w => fun h => absurd h k) (by simp)) ?_
      refine ops_cons (by exact opOk2_val rfl rfl (y_pick (c := !b1) rfl (by kernel_rfl) (.inl rfl) (by kernel_rfl) (.inl rfl) (fun _ _ h => h) (fun h _ => by show Value.bool true = .bool (!b1 || b2); rw [h]; rfl) (fun h v w hs => by rw [(show b1 = true → v = .bool b2 from hs) (by simpa using h)]; show Value.bool b2 = .bool (!b1 || b2); rw [h]; rfl))) ?_
      refine ops_cons (by exact opOk2_val rfl rfl (y_move rfl (by kernel_rfl) (.inl rfl) (fun _ _ h => h))) ?_
      refine ops_cons (by exact opOk2_if (K := (!b1 || b2) = false) rfl rfl rfl (by kernel_rfl) rfl (fun v w h k => by rw [show v = .bool (!b1 || b2) from h, k]) (fun v w h k => by rw [show v = .bool (!b1 || b2) from h]; intro he; exact k (Value.bool.inj he)) (fun hk => y_field (p := .pointer (some ⟨gb, 0, none⟩)) (p' := .pointer (some ⟨gb, 2, none⟩)) rfl (by kernel_rfl) (.inl rfl) (fun _ _ h => h) (fun W => by go_simp) (fun _ _ => rfl)) (fun k w => fun h => absurd h k) (by simp)) ?_
      refine ops_cons (by exact opOk2_if (K := (!b1 || b2) = false) rfl rfl rfl (by kernel_rfl) rfl (fun v w h k => by rw [show v = .bool (!b1 || b2) from h, k]) (fun v w h k => by rw [show v = .bool (!b1 || b2) from h]; intro he; exact k (Value.bool.inj he)) (fun hk => y_load (p := .pointer (some ⟨gb, 2, none⟩)) rfl (by kernel_rfl) (.inl rfl) (fun _ _ h => h hk) (fun W hW => by
            obtain ⟨⟨c0, c1, c2, c3, c4, c5, c6, c7⟩, ⟨d0, d1, d2, d3, d4, d5, d6, d7⟩⟩ := HLF.out W hW
            simp only [Nat.zero_add] at c1 c2 d1 d2
            exact ⟨.int .i64 g.ki, by go_simp <;> rfl, fun _ => rfl⟩)) (fun k w => fun h => absurd h k) (by simp)) ?_
      refine ops_cons (by exact opOk2_if (K := (!b1 || b2) = false) rfl rfl rfl (by kernel_rfl) rfl (fun v w h k => by rw [show v = .bool (!b1 || b2) from h, k]) (fun v w h k => by rw [show v = .bool (!b1 || b2) from h]; intro he; exact k (Value.bool.inj he)) (fun hk => y_binc (x := .int .i64 g.ki) (y := .bool b3) rfl (by kernel_rfl) (.inl rfl) (fun _ _ h => h hk) (fun W => by have hq := b3Q; go_simp) (fun _ _ => rfl)) (fun k w => fun h => absurd h k) (by simp)) ?_
      refine ops_cons (by exact opOk2_val rfl rfl (y_pick (c := !b1 || b2) rfl (by kernel_rfl) (.inl rfl) (by kernel_rfl) (.inl rfl) (fun _ _ h => h) (fun h _ => by show Value.bool true = .bool (!b1 || b2 || b3); rw [h]; rfl) (fun h v w hs => by rw [(show (!b1 || b2) = false → v = .bool b3 from hs) h]; show Value.bool b3 = .bool (!b1 || b2 || b3); rw [h]; rfl))) ?_
      refine ops_cons (by exact opOk2_val rfl rfl (y_move rfl (by kernel_rfl) (.inl rfl) (fun _ _ h => h))) ?_
      refine ops_cons (by exact opOk2_if (K := (!b1 || b2 || b3) = false) rfl rfl rfl (by kernel_rfl) rfl (fun v w h k => by rw [show v = .bool (!b1 || b2 || b3) from h, k]) (fun v w h k => by rw [show v = .bool (!b1 || b2 || b3) from h]; intro he; exact k (Value.bool.inj he)) (fun hk => y_field (p := .pointer (some ⟨fb, 0, none⟩)) (p' := .pointer (some ⟨fb, 1, none⟩)) rfl (by kernel_rfl) (.inl rfl) (fun _ _ h => h) (fun W => by go_simp) (fun _ _ => rfl)) (fun k w => fun h => absurd h k) (by simp)) ?_
      refine ops_cons (by exact opOk2_if (K := (!b1 || b2 || b3) = false) rfl rfl rfl (by kernel_rfl) rfl (fun v w h k => by rw [show v = .bool (!b1 || b2 || b3) from h, k]) (fun v w h k => by rw [show v = .bool (!b1 || b2 || b3) from h]; intro he; exact k (Value.bool.inj he)) (fun hk => y_load (p := .pointer (some ⟨fb, 1, none⟩)) rfl (by kernel_rfl) (.inl rfl) (fun _ _ h => h hk) (fun W hW => by
            obtain ⟨⟨c0, c1, c2, c3, c4, c5, c6, c7⟩, ⟨d0, d1, d2, d3, d4, d5, d6, d7⟩⟩ := HLF.out W hW
            simp only [Nat.zero_add] at c1 c2 d1 d2
            exact ⟨.int .u32 f.pe, by go_simp <;> rfl, fun _ => rfl⟩)) (fun k w => fun h => absurd h k) (by simp)) ?_
      refine ops_cons (by exact opOk2_if (K := (!b1 || b2 || b3) = false) rfl rfl rfl (by kernel_rfl) rfl (fun v w h k => by rw [show v = .bool (!b1 || b2 || b3) from h, k]) (fun v w h k => by rw [show v = .bool (!b1 || b2 || b3) from h]; intro he; exact k (Value.bool.inj he)) (fun hk => y_field (p := .pointer (some ⟨gb, 0, none⟩)) (p' := .pointer (some ⟨gb, 1, none⟩)) rfl (by kernel_rfl) (.inl rfl) (fun _ _ h => h) (fun W => by go_simp) (fun _ _ => rfl)) (fun k w => fun h => absurd h k) (by simp)) ?_
      refine ops_cons (by exact opOk2_if (K := (!b1 || b2 || b3) = false) rfl rfl rfl (by kernel_rfl) rfl (fun v w h k => by rw [show v = .bool (!b1 || b2 || b3) from h, k]) (fun v w h k => by rw [show v = .bool (!b1 || b2 || b3) from h]; intro he; exact k (Value.bool.inj he)) (fun hk => y_load (p := .pointer (some ⟨gb, 1, none⟩)) rfl (by kernel_rfl) (.inl rfl) (fun _ _ h => h hk) (fun W hW => by
            obtain ⟨⟨c0, c1, c2, c3, c4, c5, c6, c7⟩, ⟨d0, d1, d2, d3, d4, d5, d6, d7⟩⟩ := HLF.out W hW
            simp only [Nat.zero_add] at c1 c2 d1 d2
            exact ⟨.int .u32 g.pe, by go_simp <;> rfl, fun _ => rfl⟩)) (fun k w => fun h => absurd h k) (by simp)) ?_
      refine ops_cons (by exact opOk2_if (K := (!b1 || b2 || b3) = false) rfl rfl rfl (by kernel_rfl) rfl (fun v w h k => by rw [show v = .bool (!b1 || b2 || b3) from h, k]) (fun v w h k => by rw [show v = .bool (!b1 || b2 || b3) from h]; intro he; exact k (Value.bool.inj he)) (fun hk => y_bin2 (x := .int .u32 f.pe) (z := .int .u32 g.pe) (y := .bool b4) rfl (by kernel_rfl) (.inl rfl) (by kernel_rfl) (.inl rfl) (fun _ _ h => h hk) (fun _ _ h => h hk) (fun W => by have hq := b4Q; go_simp) (fun _ => (if_pos hk).symm)) (fun k w => (show undef = (if (!b1 || b2 || b3) = false then Value.bool b4 else undef) from (if_neg k).symm)) (by simp)) ?_
      refine ops_cons (by exact opOk2_if (K := (!b1 || b2 || b3) = false) rfl rfl rfl (by kernel_rfl) rfl (fun v w h k => by rw [show v = .bool (!b1 || b2 || b3) from h, k]) (fun v w h k => by rw [show v = .bool (!b1 || b2 || b3) from h]; intro he; exact k (Value.bool.inj he)) (fun hk => y_move rfl (by kernel_rfl) (.inl rfl) (fun _ _ h => h)) (fun k w => (show undef = (if (!b1 || b2 || b3) = false then Value.bool b4 else undef) from (if_neg k).symm)) (by simp)) ?_
      refine ops_cons (by exact opOk2_if (K := (!b1 || b2 || b3) = false ∧ b4 = true) rfl rfl rfl (by kernel_rfl) rfl (fun v w h k => by rw [show v = (if (!b1 || b2 || b3) = false then .bool b4 else undef) from h, if_pos k.1, k.2]) (fun v w h k => by
              rw [show v = (if (!b1 || b2 || b3) = false then .bool b4 else undef) from h]
              by_cases hc : (!b1 || b2 || b3) = false
              · rw [if_pos hc]; intro he; exact k ⟨hc, Value.bool.inj he⟩
              · rw [if_neg hc]; intro he; cases he) (fun hk => y_field (p := .pointer (some ⟨fb, 0, none⟩)) (p' := .pointer (some ⟨fb, 2, none⟩)) rfl (by kernel_rfl) (.inl rfl) (fun _ _ h => h) (fun W => by go_simp) (fun _ _ => rfl)) (fun k w => fun h => absurd h k) (by simp)) ?_
      refine ops_cons (by exact opOk2_if (K := (!b1 || b2 || b3) = false ∧ b4 = true) rfl rfl rfl (by kernel_rfl) rfl (fun v w h k => by rw [show v = (if (!b1 || b2 || b3) = false then .bool b4 else undef) from h, if_pos k.1, k.2]) (fun v w h k => by
              rw [show v = (if (!b1 || b2 || b3) = false then .bool b4 else undef) from h]
              by_cases hc : (!b1 || b2 || b3) = false
              · rw [if_pos hc]; intro he; exact k ⟨hc, Value.bool.inj he⟩
              · rw [if_neg hc]; intro he; cases he) (fun hk => y_load (p := .pointer (some ⟨fb, 2, none⟩)) rfl (by kernel_rfl) (.inl rfl) (fun _ _ h => h hk) (fun W hW => by
            obtain ⟨⟨c0, c1, c2, c3, c4, c5, c6, c7⟩, ⟨d0, d1, d2, d3, d4, d5, d6, d7⟩⟩ := HLF.out W hW
            simp only [Nat.zero_add] at c1 c2 d1 d2
            exact ⟨.int .i64 f.ki, by go_simp <;> rfl, fun _ => rfl⟩)) (fun k w => fun h => absurd h k) (by simp)) ?_
      refine ops_cons (by exact opOk2_if (K := (!b1 || b2 || b3) = false ∧ b4 = true) rfl rfl rfl (by kernel_rfl) rfl (fun v w h k => by rw [show v = (if (!b1 || b2 || b3) = false then .bool b4 else undef) from h, if_pos k.1, k.2]) (fun v w h k => by
              rw [show v = (if (!b1 || b2 || b3) = false then .bool b4 else undef) from h]
              by_cases hc : (!b1 || b2 || b3) = false
              · rw [if_pos hc]; intro he; exact k ⟨hc, Value.bool.inj he⟩
              · rw [if_neg hc]; intro he; cases he) (fun hk => y_field (p := .pointer (some ⟨gb, 0, none⟩)) (p' := .pointer (some ⟨gb, 2, none⟩)) rfl (by kernel_rfl) (.inl rfl) (fun _ _ h => h) (fun W => by go_simp) (fun _ _ => rfl)) (fun k w => fun h => absurd h k) (by simp)) ?_
      refine ops_cons (by exact opOk2_if (K := (!b1 || b2 || b3) = false ∧ b4 = true) rfl rfl rfl (by kernel_rfl) rfl (fun v w h k => by rw [show v = (if (!b1 || b2 || b3) = false then .bool b4 else undef) from h, if_pos k.1, k.2]) (fun v w h k => by
              rw [show v = (if (!b1 || b2 || b3) = false then .bool b4 else undef) from h]
              by_cases hc : (!b1 || b2 || b3) = false
              · rw [if_pos hc]; intro he; exact k ⟨hc, Value.bool.inj he⟩
              · rw [if_neg hc]; intro he; cases he) (fun hk => y_load (p := .pointer (some ⟨gb, 2, none⟩)) rfl (by kernel_rfl) (.inl rfl) (fun _ _ h => h hk) (fun W hW => by
            obtain ⟨⟨c0, c1, c2, c3, c4, c5, c6, c7⟩, ⟨d0, d1, d2, d3, d4, d5, d6, d7⟩⟩ := HLF.out W hW
            simp only [Nat.zero_add] at c1 c2 d1 d2
            exact ⟨.int .i64 g.ki, by go_simp <;> rfl, fun _ => rfl⟩)) (fun k w => fun h => absurd h k) (by simp)) ?_
      refine ops_cons (by exact opOk2_if (K := (!b1 || b2 || b3) = false ∧ b4 = true) rfl rfl rfl (by kernel_rfl) rfl (fun v w h k => by rw [show v = (if (!b1 || b2 || b3) = false then .bool b4 else undef) from h, if_pos k.1, k.2]) (fun v w h k => by
              rw [show v = (if (!b1 || b2 || b3) = false then .bool b4 else undef) from h]
              by_cases hc : (!b1 || b2 || b3) = false
              · rw [if_pos hc]; intro he; exact k ⟨hc, Value.bool.inj he⟩
              · rw [if_neg hc]; intro he; cases he) (fun hk => y_bin2 (x := .int .i64 f.ki) (z := .int .i64 g.ki) (y := .bool b5) rfl (by kernel_rfl) (.inl rfl) (by kernel_rfl) (.inl rfl) (fun _ _ h => h hk) (fun _ _ h => h hk) (fun W => by have hq := b5Q; go_simp) (fun _ _ => rfl)) (fun k w => fun h => absurd h k) (by simp)) ?_
      refine ops_cons (by exact opOk2_if (K := (!b1 || b2 || b3) = false) rfl rfl rfl (by kernel_rfl) rfl (fun v w h k => by rw [show v = .bool (!b1 || b2 || b3) from h, k]) (fun v w h k => by rw [show v = .bool (!b1 || b2 || b3) from h]; intro he; exact k (Value.bool.inj he)) (fun hk => y_pick2 (c := b4) rfl (by kernel_rfl) (.inl rfl) (by kernel_rfl) (.inl rfl) (fun v w h => (show v = (if (!b1 || b2 || b3) = false then .bool b4 else undef) from h).trans (if_pos hk)) (fun h _ _ => by show Value.bool false = .bool (b4 && b5); rw [h]; rfl) (fun h v w hs _ => by rw [(show (!b1 || b2 || b3) = false ∧ b4 = true → v = .bool b5 from hs) ⟨hk, h⟩]; show Value.bool b5 = .bool (b4 && b5); rw [h]; rfl)) (fun k w => fun h => absurd h k) (by simp)) ?_
      refine ops_cons (by exact opOk2_val rfl rfl (y_pick (c := !b1 || b2 || b3) rfl (by kernel_rfl) (.inl rfl) (by kernel_rfl) (.inl rfl) (fun _ _ h => h) (fun h _ => by show Value.bool true = .bool (!b1 || b2 || b3 || b4 && b5); rw [h]; rfl) (fun h v w hs => by rw [(show (!b1 || b2 || b3) = false → v = .bool (b4 && b5) from hs) h]; show Value.bool (b4 && b5) = .bool (!b1 || b2 || b3 || b4 && b5); rw [h]; rfl))) ?_
      exact fun i o ho => absurd ho (by simp)
    · intro vs W hb hsp
      have e56 : vs 56 = .bool tt := by rw [← HTT.out]; exact hsp 56 rfl
      simp only [putAll]
      go_simp
      go_step
      go_meet
      exact ⟨rfl, Lib.hid hb⟩
  case rest =>
    obtain ⟨rfl, HB4⟩ := hcut
    cases tt with
    | true =>
      go_wp2_with fail
      refine (HAW.out _ HB4.out).mono ?_
      rintro e w4 ⟨rfl, hb4⟩
      have HB5 := Lib.hid (bTrans HB3.out (bTrans HB4.out hb4))
      clear hb4
      go_wp2
      go_ret
      exact ⟨rfl, HB5.out⟩
    | false =>
      have hbs : b1 = true ∧ b2 = false ∧ b3 = false ∧ (b4 && b5) = false := by
        have h := HTT.out
        revert h
        cases b1 <;> cases b2 <;> cases b3 <;> cases b4 <;> cases b5 <;> simp
      have HKF : Hid (f.ki ≠ 18 ∧ g.ki ≠ 18 ∧ ¬ (f.pe = g.pe ∧ f.ki = g.ki)) := Lib.hid (by
        obtain ⟨_, h2, h3, h4, h5⟩ := HH.out
        refine ⟨fun h => ?_, fun h => ?_, fun h => ?_⟩
        · rw [h, hbs.2.1] at h2; cases h2
        · rw [h, hbs.2.2.1] at h3; cases h3
        · rw [beq_iff_eq.2 h.1] at h4
          rw [beq_iff_eq.2 h.2] at h5
          have := hbs.2.2.2
          rw [← h4, ← h5] at this
          cases this)
      have HSA := Lib.hid (short_all (HH.out.1.trans hbs.1) HFW.out)
      have hll : l.length ≤ 28 := by have := HSA.out.2; rw [List.length_append] at this; simp at this; omega
      have HFL : Hid (∀ x ∈ l, Fit x) := Lib.hid fun x hx => HSA.out.1 x (List.mem_append_left _ hx)
      have HFf : Hid (Fit (noId f)) := Lib.hid (HSA.out.1 _ (List.mem_append_right _ (by simp)))
      have HFg : Hid (Fit (noId g)) := Lib.hid (HSA.out.1 _ (List.mem_append_right _ (by simp)))
      clear hbs HTT HH HQ HSH HLL HFW HSA HF3 HG3
      obtain ⟨f1, hf1⟩ : ∃ z, noId f = z := ⟨_, rfl⟩
      obtain ⟨g1, hg1⟩ : ∃ z, noId g = z := ⟨_, rfl⟩
      have HK1 : Hid (f1.id = 0 ∧ g1.id = 0 ∧ f1.ki ≠ 18 ∧ g1.ki ≠ 18 ∧ ¬ (f1.pe = g1.pe ∧ f1.ki = g1.ki)) := Lib.hid (by rw [← hf1, ← hg1]; exact ⟨rfl, rfl, HKF.out⟩)
      rw [hf1, hg1] at HLF
      rw [hf1] at HFf
      rw [hg1] at HFg
      clear hf1 hg1 HKF
      have HBW : Hid (∀ W, Below w3.heap.size w3 W → Below w.heap.size w W) := Lib.hid fun W hW => bTrans HB3.out hW
      have HTW : Hid (∀ W, Below w3.heap.size w3 W → Tb W) := Lib.hid fun W hW => HT.out.below hW
      have HLW : Hid (∀ W, Below w3.heap.size w3 W → SlF W A l) := Lib.hid fun W hW => HL.out.below hW
      clear HT HL HB3
      obtain ⟨sb, hsb⟩ : ∃ x, wc.heap.size = x := ⟨_, rfl⟩
      obtain ⟨w5, hw5⟩ : ∃ x, wc.alloc (.cells #[.slice none 0 0] 30) = x := ⟨_, rfl⟩
      have HV5 : Hid (StV sb [] w5) := Lib.hid ⟨none, 0, by rw [← hw5, ← hsb]; exact Bk.new _ _ _, Nat.le_refl _, fun h => absurd rfl h⟩
      have HB5 : Hid (Below w3.heap.size w3 w5) := Lib.hid (by rw [← hw5]; exact bTrans HB4.out (bAlloc _ _))
      have HSW : Hid (w3.heap.size ≤ sb) := Lib.hid (by rw [← hsb]; exact HB4.out.size)
      have HE5 := Lib.hid (And.intro hsb hw5)
      clear hsb hw5 HB4
      go_upto_region 5 with fail
      rw [HE5.out.1, HE5.out.2]
      clear HE5
      go_wp2
      go_loopg [60] l.length (fun n iv wr => ∃ (k : Nat), k + n = l.length ∧ iv = .int .i64 k ∧ Hid (StV sb (tellL [] (l.take k)) wr) ∧ Hid (Below w3.heap.size w3 wr))
      case atStart => exact ⟨0, by omega, rfl, HV5, HB5⟩
      case round =>
        obtain ⟨k, hk, rfl, HV, HB⟩ := hrel
        by_cases hlt : k < l.length
        · obtain ⟨b, off, rfl, hbl, hat⟩ := SlF.open_ (HLW.out _ HB.out) (by intro h; simp [h] at hlt)
          obtain ⟨x, hx⟩ : ∃ x, l[k]? = some x := ⟨_, List.getElem?_eq_getElem hlt⟩
          obtain ⟨C0, C1, C2, C3, C4, C5, C6, C7⟩ := hat k x hx
          have HNX := Lib.hid (tellL_take (L := []) hx)
          have HFF := Lib.hid (HFL.out x (List.mem_of_getElem? hx))
          have HLN : (tellL [] (l.take k)).length ≤ 4096 := by have := tellL_len (l.take k) []; rw [List.length_take] at this; (try simp only [List.length_nil] at this); omega
          obtain ⟨T, hTT⟩ : ∃ T, tellL [] (l.take k) = T := ⟨_, rfl⟩
          rw [hTT] at HNX HLN
          obtain ⟨A1, c1, hv1, hv2, hv3⟩ : StV sb T wr := by rw [← hTT]; exact HV.out
          obtain ⟨N, en, hN⟩ : ∃ N en, addL T x = (N, en) := ⟨_, _, rfl⟩
          have HNX2 : Hid (tellL [] (l.take (k + 1)) = N) := Lib.hid (by rw [HNX.out, hN])
          obtain ⟨xb, hxb⟩ : ∃ x, wr.heap.size = x := ⟨_, rfl⟩
          obtain ⟨w4, hw4⟩ : ∃ z, wr.alloc (.cells (FA x) 26) = z := ⟨_, rfl⟩
          have HF4 : Hid (Bk xb 26 (FA x) w4) := Lib.hid (by rw [← hw4, ← hxb]; exact Bk.new _ _ _)
          have hbr4 : Below wr.heap.size wr w4 := by rw [← hw4]; exact bAlloc _ _
          have HB4 : Hid (Below w3.heap.size w3 w4) := Lib.hid (bTrans HB.out hbr4)
          have HS4 : Hid (SlF w4 A1 T) := Lib.hid (hv3.below hbr4)
          have HK4 : Hid (Bk sb 30 #[.slice A1 T.length c1] w4) := Lib.hid ((hbr4.block sb hv1.lt).trans hv1)
          have HADD := Lib.hid (st_Add T A1 c1 x w4 HLN hv2 HS4.out HFF.out (HTW.out _ HB4.out))
          unfold addR at HADD
          rw [hN] at HADD
          unfold FA at hw4 HADD
          have HE4 := Lib.hid (And.intro hxb hw4)
          clear hat hx hTT hv1 hv2 hv3 hxb hw4 hbr4 HV HNX hN
          go_upto_region 8 with fail
          rw [HE4.out.1, HE4.out.2]
          clear C0 C1 C2 C3 C4 C5 C6 C7 HE4
          have V4 : w4.cell? ⟨sb, 0, none⟩ = some (.slice A1 T.length c1) := HK4.out.cell 0
          have F0 : w4.cell? ⟨xb, 0, none⟩ = some (.int .u32 x.id) := HF4.out.cell 0
          have F1 : w4.cell? ⟨xb, 1, none⟩ = some (.int .u32 x.pe) := HF4.out.cell 1
          have F2 : w4.cell? ⟨xb, 2, none⟩ = some (.int .i64 x.ki) := HF4.out.cell 2
          have F3 : w4.cell? ⟨xb, 3, none⟩ = some (.int .i64 x.fr) := HF4.out.cell 3
          have F4 : w4.cell? ⟨xb, 4, none⟩ = some (.int .i64 x.to) := HF4.out.cell 4
          have F5 : w4.cell? ⟨xb, 5, none⟩ = some (.string x.co) := HF4.out.cell 5
          have F6 : w4.cell? ⟨xb, 6, none⟩ = some (.int .i64 x.nu) := HF4.out.cell 6
          have F7 : w4.cell? ⟨xb, 7, none⟩ = some (.string x.tx) := HF4.out.cell 7
          go_wp2_with fail
          refine HADD.out.mono ?_
          rintro e w5' ⟨⟨A2, c2, rfl, hc2, hs2⟩, hb5⟩
          clear V4 F0 F1 F2 F3 F4 F5 F6 F7 HADD
          have hk5 : Bk sb 30 #[.slice A1 T.length c1] w5' := (hb5.block sb HK4.out.lt).trans HK4.out
          have V5 : w5'.cell? ⟨sb, 0, none⟩ = some (.slice A1 T.length c1) := Bk.cell hk5 0
          have D5 : w5'.frozen? ⟨sb, 0, none⟩ = false := Bk.frozen hk5 0
          obtain ⟨w6, hw6⟩ : ∃ x, w5'.setCell ⟨sb, 0, none⟩ (.slice A2 N.length c2) = x := ⟨_, rfl⟩
          have HV6 : Hid (StV sb N w6) := Lib.hid ⟨A2, c2, by rw [← hw6]; exact hk5.set_ 0 _, hc2, by rw [← hw6]; exact hs2.keepRe hk5 _⟩
          have HB6 : Hid (Below w3.heap.size w3 w6) := Lib.hid (by rw [← hw6]; exact (bTrans HB4.out hb5).setCell (p := ⟨sb, 0, none⟩) HSW.out _)
          have HE6 := Lib.hid hw6
          clear hk5 hw6 hc2 hs2 hb5
          go_upto_region 9 with fail
          rw [HE6.out]
          clear V5 D5 HE6
          go_wp2
          go_roundg (l.length - (k + 1))
          case measure => omega
          case rel => exact ⟨k + 1, by omega, by go_num, by rw [HNX2.out]; exact HV6, HB6⟩
        · obtain rfl : k = l.length := by omega
          have HT0 : Hid (tellL [] (l.take l.length) = tellL [] l) := Lib.hid (by rw [List.take_length])
          obtain ⟨T0, hT0⟩ : ∃ T, tellL [] l = T := ⟨_, rfl⟩
          have HLT : T0.length ≤ 28 := by rw [← hT0]; have := tellL_len l []; rw [List.length_nil] at this; omega
          have HTD : Hid (Told T0) := Lib.hid (by rw [← hT0]; exact told_tell Told.nil)
          have HV0 : Hid (StV sb T0 wr) := Lib.hid (by rw [← hT0, ← HT0.out]; exact HV.out)
          clear HT0 HV hT0 hlt hk
          obtain ⟨P1, e1, hP1⟩ : ∃ N en, addL T0 f1 = (N, en) := ⟨_, _, rfl⟩
          obtain ⟨P, e2, hP⟩ : ∃ N en, addL P1 g1 = (N, en) := ⟨_, _, rfl⟩
          obtain ⟨Q1, e3, hQ1⟩ : ∃ N en, addL T0 g1 = (N, en) := ⟨_, _, rfl⟩
          obtain ⟨Q, e4, hQ⟩ : ∃ N en, addL Q1 f1 = (N, en) := ⟨_, _, rfl⟩
          have HPE : Hid (P = T0 ++ (oneL f1 ++ oneL g1)) := Lib.hid (by
            obtain ⟨h1, h2, h3, h4, _⟩ := HK1.out
            have h := two_tell (T := T0) h1 h2 h3 h4 (by omega)
            rw [hP1] at h
            rw [show (addL P1 g1).1 = P by rw [hP]] at h
            exact h)
          have HQE : Hid (Q = T0 ++ (oneL g1 ++ oneL f1)) := Lib.hid (by
            obtain ⟨h1, h2, h3, h4, _⟩ := HK1.out
            have h := two_tell (T := T0) h2 h1 h4 h3 (by omega)
            rw [hQ1] at h
            rw [show (addL Q1 f1).1 = Q by rw [hQ]] at h
            exact h)
          have lP1 : P1.length ≤ 29 := by have := addL_len1 T0 f1; rw [hP1] at this; simp only at this; omega
          have lP : P.length ≤ 30 := by have := addL_len1 P1 g1; rw [hP] at this; simp only at this; omega
          have lQ1 : Q1.length ≤ 29 := by have := addL_len1 T0 g1; rw [hQ1] at this; simp only at this; omega
          have lQ : Q.length ≤ 30 := by have := addL_len1 Q1 f1; rw [hQ] at this; simp only at this; omega
          have HEQS := Lib.hid (And.intro hP1 (And.intro hP (And.intro hQ1 hQ)))
          clear hP1 hP hQ1 hQ
          obtain ⟨A1, c1, hk1, hc1, hs1⟩ := HV0.out
          have HKS : Hid (Bk sb 30 #[.slice A1 T0.length c1] wr) := Lib.hid hk1
          have HSS : Hid (SlF wr A1 T0) := Lib.hid hs1
          have HC1 := Lib.hid hc1
          clear hk1 hc1 hs1 HV0
          -- the first store: f, then g
          have HAD1 : Hid (Calls Tryz.prog 17 #[.agg #[.slice A1 T0.length c1], .agg (FA f1)] wr fun e w' => (∃ A2 c2, e = .returned (.tuple #[.agg #[.slice A2 P1.length c2], .int .i64 e1]) ∧ P1.length ≤ c2 ∧ SlF w' A2 P1) ∧ Below wr.heap.size wr w') := Lib.hid (by
            have h := st_Add T0 A1 c1 f1 wr (by omega) HC1.out HSS.out HFf.out (HTW.out _ HB.out)
            unfold addR at h
            rw [HEQS.out.1] at h
            exact h)
          obtain ⟨⟨C0, C1, C2, C3, C4, C5, C6, C7⟩, _⟩ := HLF.out _ HB.out
          have V4 : wr.cell? ⟨sb, 0, none⟩ = some (.slice A1 T0.length c1) := HKS.out.cell 0
          simp only [Nat.zero_add] at C1 C2 C3 C4 C5 C6 C7
          unfold FA at HAD1
          go_wp2_with fail
          refine HAD1.out.mono ?_
          rintro e w5' ⟨⟨A2, c2, rfl, hc2, hs2⟩, hb5⟩
          obtain ⟨ab, hab⟩ : ∃ x, w5'.heap.size = x := ⟨_, rfl⟩
          obtain ⟨w6, hw6⟩ : ∃ x, w5'.alloc (.cells #[.slice A2 P1.length c2] 30) = x := ⟨_, rfl⟩
          have hb6 : Below wr.heap.size wr w6 := by rw [← hw6]; exact bTrans hb5 (bAlloc _ _)
          have HA6 : Hid (Bk ab 30 #[.slice A2 P1.length c2] w6) := Lib.hid (by rw [← hw6, ← hab]; exact Bk.new _ _ _)
          have HS6 : Hid (SlF w6 A2 P1) := Lib.hid (by rw [← hw6]; exact hs2.below (bAlloc _ _))
          have HB6 : Hid (Below w3.heap.size w3 w6) := Lib.hid (bTrans HB.out hb6)
          have HK6 : Hid (Bk sb 30 #[.slice A1 T0.length c1] w6) := Lib.hid ((hb6.block sb HKS.out.lt).trans HKS.out)
          have HT6 : Hid (SlF w6 A1 T0) := Lib.hid (HSS.out.below hb6)
          have HSA : Hid (sb < ab ∧ w3.heap.size ≤ ab) := Lib.hid (by
            have h1 := HKS.out.lt
            have h2 := hb5.size
            have h3 := HB.out.size
            omega)
          have HC2 := Lib.hid hc2
          have HE6 := Lib.hid (And.intro hab hw6)
          clear hab hw6 hb6 hb5 hc2 hs2 C0 C1 C2 C3 C4 C5 C6 C7 V4 HAD1 HKS HSS HB
          go_upto_region 11 with fail
          rw [HE6.out.1, HE6.out.2]
          clear HE6
          have HAD2 : Hid (Calls Tryz.prog 17 #[.agg #[.slice A2 P1.length c2], .agg (FA g1)] w6 fun e w' => (∃ A2 c2, e = .returned (.tuple #[.agg #[.slice A2 P.length c2], .int .i64 e2]) ∧ P.length ≤ c2 ∧ SlF w' A2 P) ∧ Below w6.heap.size w6 w') := Lib.hid (by
            have h := st_Add P1 A2 c2 g1 w6 (by omega) HC2.out HS6.out HFg.out (HTW.out _ HB6.out)
            unfold addR at h
            rw [HEQS.out.2.1] at h
            exact h)
          obtain ⟨_, ⟨C0, C1, C2, C3, C4, C5, C6, C7⟩⟩ := HLF.out _ HB6.out
          have V4 : w6.cell? ⟨ab, 0, none⟩ = some (.slice A2 P1.length c2) := HA6.out.cell 0
          simp only [Nat.zero_add] at C1 C2 C3 C4 C5 C6 C7
          unfold FA at HAD2
          go_wp2_with fail
          refine HAD2.out.mono ?_
          rintro e w7 ⟨⟨A3, c3, rfl, hc3, hs3⟩, hb7⟩
          have hk7 : Bk ab 30 #[.slice A2 P1.length c2] w7 := (hb7.block ab HA6.out.lt).trans HA6.out
          have V7 : w7.cell? ⟨ab, 0, none⟩ = some (.slice A2 P1.length c2) := Bk.cell hk7 0
          have D7 : w7.frozen? ⟨ab, 0, none⟩ = false := Bk.frozen hk7 0
          have hs7 : Bk sb 30 #[.slice A1 T0.length c1] w7 := (hb7.block sb HK6.out.lt).trans HK6.out
          obtain ⟨w8, hw8⟩ : ∃ x, w7.setCell ⟨ab, 0, none⟩ (.slice A3 P.length c3) = x := ⟨_, rfl⟩
          have HA8 : Hid (Bk ab 30 #[.slice A3 P.length c3] w8) := Lib.hid (by rw [← hw8]; exact hk7.set_ 0 _)
          have HP8 : Hid (SlF w8 A3 P) := Lib.hid (by rw [← hw8]; exact hs3.keepRe hk7 _)
          have HK8 : Hid (Bk sb 30 #[.slice A1 T0.length c1] w8) := Lib.hid (by rw [← hw8]; exact (heap_setCell_other w7 ⟨ab, 0, none⟩ sb _ (by show ¬ sb = ab; have := HSA.out; omega)).trans hs7)
          have HT8 : Hid (SlF w8 A1 T0) := Lib.hid (by rw [← hw8]; exact SlF.keepRe (HT6.out.below hb7) hk7 _)
          have HB8 : Hid (Below w3.heap.size w3 w8) := Lib.hid (by rw [← hw8]; exact (bTrans HB6.out hb7).setCell (p := ⟨ab, 0, none⟩) HSA.out.2 _)
          have HC3 := Lib.hid hc3
          have HE8 := Lib.hid hw8
          clear hk7 hs7 hw8 hc3 hs3 hb7 C0 C1 C2 C3 C4 C5 C6 C7 V4 HAD2 HA6 HS6 HB6 HK6 HT6 HC2
          go_upto_region 12 with fail
          rw [HE8.out]
          clear V7 D7 HE8
          -- the second store: g, then f
          have HAD3 : Hid (Calls Tryz.prog 17 #[.agg #[.slice A1 T0.length c1], .agg (FA g1)] w8 fun e w' => (∃ A2 c2, e = .returned (.tuple #[.agg #[.slice A2 Q1.length c2], .int .i64 e3]) ∧ Q1.length ≤ c2 ∧ SlF w' A2 Q1) ∧ Below w8.heap.size w8 w') := Lib.hid (by
            have h := st_Add T0 A1 c1 g1 w8 (by omega) HC1.out HT8.out HFg.out (HTW.out _ HB8.out)
            unfold addR at h
            rw [HEQS.out.2.2.1] at h
            exact h)
          obtain ⟨_, ⟨C0, C1, C2, C3, C4, C5, C6, C7⟩⟩ := HLF.out _ HB8.out
          have V4 : w8.cell? ⟨sb, 0, none⟩ = some (.slice A1 T0.length c1) := HK8.out.cell 0
          simp only [Nat.zero_add] at C1 C2 C3 C4 C5 C6 C7
          unfold FA at HAD3
          go_wp2_with fail
          refine HAD3.out.mono ?_
          rintro e w9 ⟨⟨A4, c4, rfl, hc4, hs4⟩, hb9⟩
          obtain ⟨bb, hbb⟩ : ∃ x, w9.heap.size = x := ⟨_, rfl⟩
          obtain ⟨w10, hw10⟩ : ∃ x, w9.alloc (.cells #[.slice A4 Q1.length c4] 30) = x := ⟨_, rfl⟩
          have hb10 : Below w8.heap.size w8 w10 := by rw [← hw10]; exact bTrans hb9 (bAlloc _ _)
          have HQ10 : Hid (Bk bb 30 #[.slice A4 Q1.length c4] w10) := Lib.hid (by rw [← hw10, ← hbb]; exact Bk.new _ _ _)
          have HS10 : Hid (SlF w10 A4 Q1) := Lib.hid (by rw [← hw10]; exact hs4.below (bAlloc _ _))
          have HB10 : Hid (Below w3.heap.size w3 w10) := Lib.hid (bTrans HB8.out hb10)
          have HA10 : Hid (Bk ab 30 #[.slice A3 P.length c3] w10) := Lib.hid ((hb10.block ab HA8.out.lt).trans HA8.out)
          have HP10 : Hid (SlF w10 A3 P) := Lib.hid (HP8.out.below hb10)
          have HSB : Hid (ab < bb ∧ w3.heap.size ≤ bb) := Lib.hid (by
            have h1 := HA8.out.lt
            have h2 := hb9.size
            have h3 := HSA.out
            omega)
          have HC4 := Lib.hid hc4
          have HE10 := Lib.hid (And.intro hbb hw10)
          clear hbb hw10 hb10 hb9 hc4 hs4 C0 C1 C2 C3 C4 C5 C6 C7 V4 HAD3 HK8 HT8 HB8 HA8 HP8
          go_upto_region 13 with fail
          rw [HE10.out.1, HE10.out.2]
          clear HE10
          have HAD4 : Hid (Calls Tryz.prog 17 #[.agg #[.slice A4 Q1.length c4], .agg (FA f1)] w10 fun e w' => (∃ A2 c2, e = .returned (.tuple #[.agg #[.slice A2 Q.length c2], .int .i64 e4]) ∧ Q.length ≤ c2 ∧ SlF w' A2 Q) ∧ Below w10.heap.size w10 w') := Lib.hid (by
            have h := st_Add Q1 A4 c4 f1 w10 (by omega) HC4.out HS10.out HFf.out (HTW.out _ HB10.out)
            unfold addR at h
            rw [HEQS.out.2.2.2] at h
            exact h)
          obtain ⟨⟨C0, C1, C2, C3, C4, C5, C6, C7⟩, _⟩ := HLF.out _ HB10.out
          have V4 : w10.cell? ⟨bb, 0, none⟩ = some (.slice A4 Q1.length c4) := HQ10.out.cell 0
          simp only [Nat.zero_add] at C1 C2 C3 C4 C5 C6 C7
          unfold FA at HAD4
          go_wp2_with fail
          refine HAD4.out.mono ?_
          rintro e w11 ⟨⟨A5, c5, rfl, hc5, hs5⟩, hb11⟩
          have hk11 : Bk bb 30 #[.slice A4 Q1.length c4] w11 := (hb11.block bb HQ10.out.lt).trans HQ10.out
          have V11 : w11.cell? ⟨bb, 0, none⟩ = some (.slice A4 Q1.length c4) := Bk.cell hk11 0
          have D11 : w11.frozen? ⟨bb, 0, none⟩ = false := Bk.frozen hk11 0
          have ha11 : Bk ab 30 #[.slice A3 P.length c3] w11 := (hb11.block ab HA10.out.lt).trans HA10.out
          obtain ⟨w12, hw12⟩ : ∃ x, w11.setCell ⟨bb, 0, none⟩ (.slice A5 Q.length c5) = x := ⟨_, rfl⟩
          have HQ12 : Hid (Bk bb 30 #[.slice A5 Q.length c5] w12) := Lib.hid (by rw [← hw12]; exact hk11.set_ 0 _)
          have HSQ : Hid (SlF w12 A5 Q) := Lib.hid (by rw [← hw12]; exact hs5.keepRe hk11 _)
          have HA12 : Hid (Bk ab 30 #[.slice A3 P.length c3] w12) := Lib.hid (by rw [← hw12]; exact (heap_setCell_other w11 ⟨bb, 0, none⟩ ab _ (by show ¬ ab = bb; have := HSB.out; omega)).trans ha11)
          have HSP : Hid (SlF w12 A3 P) := Lib.hid (by rw [← hw12]; exact SlF.keepRe (HP10.out.below hb11) hk11 _)
          have HB12 : Hid (Below w3.heap.size w3 w12) := Lib.hid (by rw [← hw12]; exact (bTrans HB10.out hb11).setCell (p := ⟨bb, 0, none⟩) HSB.out.2 _)
          have HC5 := Lib.hid hc5
          have HE12 := Lib.hid hw12
          clear hk11 ha11 hw12 hc5 hs5 hb11 C0 C1 C2 C3 C4 C5 C6 C7 V4 HAD4 HQ10 HS10 HB10 HA10 HP10 HC4 HC1 HEQS HSA HSB HFf HFg HFL HLW
          go_upto_region 14 with fail
          rw [HE12.out]
          clear V11 D11 HE12
          have hPQ : Q.length = P.length := by rw [HPE.out, HQE.out]; simp only [List.length_append]; omega
          obtain ⟨n, hn⟩ : ∃ n, P.length = n := ⟨_, rfl⟩
          have HN := Lib.hid (And.intro hn (hPQ.trans hn))
          rw [HN.out.1] at HA12 HC3 lP
          rw [HN.out.2] at HQ12 HC5 lQ
          clear hPQ hn lP1 lQ1 lQ
          have HKP : Hid (∀ W, Below w12.heap.size w12 W → W.cell? ⟨ab, 0, none⟩ = some (.slice A3 n c3) ∧ W.cell? ⟨bb, 0, none⟩ = some (.slice A5 n c5)) := Lib.hid fun W hW => ⟨bCell hW (HA12.out.cell 0), bCell hW (HQ12.out.cell 0)⟩
          have HL1 := Lib.hid (fun W => st_Len A3 n c3 W)
          have HL2 := Lib.hid (fun W => st_Len A5 n c5 W)
          obtain ⟨V8, V9⟩ := HKP.out w12 (Below.refl _ _)
          have HX : Hid (Below w12.heap.size w12 w12.drew) := Lib.hid (bDrew _)
          go_wp2_with fail
          go_region_held3 (fun W => W.cell? ⟨ab, 0, none⟩ = some (.slice A3 n c3) ∧ W.cell? ⟨bb, 0, none⟩ = some (.slice A5 n c5)) (first | exact HKP.out _ HX.out | go_keep) (first | (go_at_call 18; (with_reducible refine (HL1.out _).mono ?_); rintro e wn ⟨rfl, hbn⟩; replace HX := Lib.hid (bTrans HX.out hbn); clear hbn) | (go_at_call 18; (with_reducible refine (HL2.out _).mono ?_); rintro e wn ⟨rfl, hbn⟩; replace HX := Lib.hid (bTrans HX.out hbn); clear hbn))
          have HAT1 : Hid (∀ W, Calls Tryz.prog 19 #[.agg #[.slice A3 n c3], .int .i64 n] W fun e w' => e = .returned (.agg #[.slice A3 n n]) ∧ Below W.heap.size W w') := Lib.hid fun W => by
            have h := st_At P A3 c3 (n : Int) W (by rw [HN.out.1]; omega) (by rw [HN.out.1]; exact HC3.out)
            rw [HN.out.1, show atN P (n : Int) = n by unfold atN; rw [HN.out.1]; omega] at h
            exact h
          have HAT2 : Hid (∀ W, Calls Tryz.prog 19 #[.agg #[.slice A5 n c5], .int .i64 n] W fun e w' => e = .returned (.agg #[.slice A5 n n]) ∧ Below W.heap.size W w') := Lib.hid fun W => by
            have h := st_At Q A5 c5 (n : Int) W (by rw [HN.out.2]; omega) (by rw [HN.out.2]; exact HC5.out)
            rw [HN.out.2, show atN Q (n : Int) = n by unfold atN; rw [HN.out.2]; omega] at h
            exact h
          have HB13 := Lib.hid (bTrans HB12.out HX.out)
          have HK13 : Hid (∀ W, Below wn.heap.size wn W → W.cell? ⟨ab, 0, none⟩ = some (.slice A3 n c3) ∧ W.cell? ⟨bb, 0, none⟩ = some (.slice A5 n c5)) := Lib.hid fun W hW => HKP.out W (bTrans HX.out hW)
          have HP13 := Lib.hid (HSP.out.below HX.out)
          have HQ13 := Lib.hid (HSQ.out.below HX.out)
          obtain ⟨w13, rfl⟩ : ∃ x, x = wn := ⟨_, rfl⟩
          clear HX HKP HSP HSQ HB12 HQ12 HA12 V8 V9
          go_upto_region 16 with fail
          obtain ⟨V8, V9⟩ := HK13.out w13 (Below.refl _ _)
          go_cut [14, 15] from 100 to 107 (fun p14 p15 wx => ∃ vb ub : Nat, p14 = .pointer (some ⟨vb, 0, none⟩) ∧ p15 = .pointer (some ⟨ub, 0, none⟩) ∧ Hid (Bk vb 35 #[.slice A3 n n] wx ∧ Bk ub 35 #[.slice A5 n n] wx ∧ Below w13.heap.size w13 wx))
          case first =>
            refine wp_region_mk (SPl [(10, .pointer (some ⟨ab, 0, none⟩)), (12, .pointer (some ⟨bb, 0, none⟩)), (100, .agg #[.slice A3 n c3]), (101, .agg #[.slice A3 n c3]), (102, .int .i64 n), (103, .agg #[.slice A3 n n]), (104, .agg #[.slice A5 n c5]), (105, .agg #[.slice A5 n c5]), (106, .int .i64 n), (107, .agg #[.slice A5 n n])]) [⟨8, 10, 14, 103, 35⟩, ⟨9, 11, 15, 107, 35⟩] [100, 101, 102, 103, 104, 105, 106, 107, 14, 15] rfl (by rfl) (by kernel_rfl) (fun _ _ _ _ h _ => h) (fun _ _ _ _ _ _ _ _ _ _ h => h) ?_ ?_ (by decide) (by rfl) ?_ (opsK_all ?_) ?_
            · intro p hp v w x hx
              simp only [List.mem_cons, List.not_mem_nil, or_false] at hp
              rcases hp with rfl | rfl
              · cases hx
              · cases hx
            · intro p hp
              simp only [List.mem_cons, List.not_mem_nil, or_false] at hp
              rcases hp with rfl | rfl
              · exact ⟨_, rfl, by kernel_rfl, by kernel_rfl⟩
              · exact ⟨_, rfl, by kernel_rfl, by kernel_rfl⟩
            · intro t ht x hx
              have hm := lookup_mem hx
              simp only [List.mem_cons, List.not_mem_nil, or_false, Prod.mk.injEq] at hm
              rcases hm with ⟨rfl, rfl⟩ | ⟨rfl, rfl⟩ | hm
              · exact rfl
              · exact rfl
              · exfalso
                rcases hm with ⟨rfl, rfl⟩ | ⟨rfl, rfl⟩ | ⟨rfl, rfl⟩ | ⟨rfl, rfl⟩ | ⟨rfl, rfl⟩ | ⟨rfl, rfl⟩ | ⟨rfl, rfl⟩ | ⟨rfl, rfl⟩
                all_goals exact Bool.noConfusion (show false = true from ht)
            · refine opsK_cons (by exact kind_n (opOk_load rfl rfl (.inl rfl) (by kernel_rfl) (fun v w h => h _ rfl) (fun W hW => ⟨.agg #[.slice A3 n c3], by have c0 := (HK13.out W hW).1; go_simp, fun x hx => Option.some.inj hx⟩)) (by decide)) ?_
              refine opsK_cons (by exact kind_n (opOk_load rfl rfl (.inl rfl) (by kernel_rfl) (fun v w h => h _ rfl) (fun W hW => ⟨.agg #[.slice A3 n c3], by have c0 := (HK13.out W hW).1; go_simp, fun x hx => Option.some.inj hx⟩)) (by decide)) ?_
              refine opsK_cons (by exact kind_n (opOk_call1 rfl rfl (.inl rfl) (by kernel_rfl) (fun args W => by go_simp) (fun v1 W hW h1 => by rw [h1 _ rfl]; exact (HL1.out W).mono fun e w' ⟨he, hb⟩ => ⟨_, he, hb, fun x hx => Option.some.inj hx⟩)) (by decide)) ?_
              refine opsK_cons (by exact kind_n (opOk_call2 rfl rfl (.inl rfl) (by kernel_rfl) (by kernel_rfl) (fun args W => by go_simp) (fun v1 v2 W hW h1 h2 => by rw [h1 _ rfl, h2 _ rfl]; exact (HAT1.out W).mono fun e w' ⟨he, hb⟩ => ⟨_, he, hb, fun x hx => Option.some.inj hx⟩)) (by decide)) ?_
              refine opsK_cons (by exact kind_n (opOk_load rfl rfl (.inl rfl) (by kernel_rfl) (fun v w h => h _ rfl) (fun W hW => ⟨.agg #[.slice A5 n c5], by have c0 := (HK13.out W hW).2; go_simp, fun x hx => Option.some.inj hx⟩)) (by decide)) ?_
              refine opsK_cons (by exact kind_n (opOk_load rfl rfl (.inl rfl) (by kernel_rfl) (fun v w h => h _ rfl) (fun W hW => ⟨.agg #[.slice A5 n c5], by have c0 := (HK13.out W hW).2; go_simp, fun x hx => Option.some.inj hx⟩)) (by decide)) ?_
              refine opsK_cons (by exact kind_n (opOk_call1 rfl rfl (.inl rfl) (by kernel_rfl) (fun args W => by go_simp) (fun v1 W hW h1 => by rw [h1 _ rfl]; exact (HL2.out W).mono fun e w' ⟨he, hb⟩ => ⟨_, he, hb, fun x hx => Option.some.inj hx⟩)) (by decide)) ?_
              refine opsK_cons (by exact kind_n (opOk_call2 rfl rfl (.inl rfl) (by kernel_rfl) (by kernel_rfl) (fun args W => by go_simp) (fun v1 v2 W hW h1 h2 => by rw [h1 _ rfl, h2 _ rfl]; exact (HAT2.out W).mono fun e w' ⟨he, hb⟩ => ⟨_, he, hb, fun x hx => Option.some.inj hx⟩)) (by decide)) ?_
              refine opsK_cons (by exact kind_alloc ⟨8, 10, 14, 103, 35⟩ (.slice none 0 0) (by simp) rfl rfl rfl (by decide) (by decide) (fun _ _ => run_newV rfl)) ?_
              refine opsK_cons (by exact kind_alloc ⟨9, 11, 15, 107, 35⟩ (.slice none 0 0) (by simp) rfl rfl rfl (by decide) (by decide) (fun _ _ => run_newV rfl)) ?_
              refine opsK_cons (by exact kind_store ⟨8, 10, 14, 103, 35⟩ (by simp) rfl rfl rfl (by kernel_rfl) (by kernel_rfl) (by kernel_rfl) (by decide) (fun v w h => ⟨A3, n, n, h _ rfl⟩) (fun _ _ _ _ _ _ _ h1 h2 h3 => run_putV rfl h1 h2 h3)) ?_
              refine opsK_cons (by exact kind_store ⟨9, 11, 15, 107, 35⟩ (by simp) rfl rfl rfl (by kernel_rfl) (by kernel_rfl) (by kernel_rfl) (by decide) (fun v w h => ⟨A5, n, n, h _ rfl⟩) (fun _ _ _ _ _ _ _ h1 h2 h3 => run_putV rfl h1 h2 h3)) ?_
              exact opsK_nil
            · intro vs W hb hsp hmk
              obtain ⟨vb, y1, e1, hv1, hy1, z1⟩ := hmk ⟨8, 10, 14, 103, 35⟩ (by simp)
              obtain ⟨ub, y2, e2, hu1, hy2, z2⟩ := hmk ⟨9, 11, 15, 107, 35⟩ (by simp)
              have q1 : y1 = .slice A3 n n := by have h := z1.symm.trans (hsp 103 _ rfl); simpa using h
              have q2 : y2 = .slice A5 n n := by have h := z2.symm.trans (hsp 107 _ rfl); simpa using h
              subst q1
              subst q2
              clear z1 z2 hmk hsp
              simp only [putAll]
              go_simp
              go_step
              go_meet
              exact ⟨vb, ub, rfl, rfl, Lib.hid ⟨hy1, hy2, hb⟩⟩
          case rest =>
          obtain ⟨vb, ub, rfl, rfl, HM⟩ := hcut
          obtain ⟨w14, rfl⟩ : ∃ x : World, x = wc := ⟨_, rfl⟩
          have HB14 : Hid (Below w3.heap.size w3 w14) := Lib.hid (bTrans HB13.out HM.out.2.2)
          have HP14 : Hid (SlF w14 A3 P) := Lib.hid (HP13.out.below HM.out.2.2)
          have HQ14 : Hid (SlF w14 A5 Q) := Lib.hid (HQ13.out.below HM.out.2.2)
          have HKV : Hid (∀ W, Below w14.heap.size w14 W → W.cell? ⟨vb, 0, none⟩ = some (.slice A3 n n) ∧ W.cell? ⟨ub, 0, none⟩ = some (.slice A5 n n)) := Lib.hid fun W hW => ⟨bCell hW (HM.out.1.cell 0), bCell hW (HM.out.2.1.cell 0)⟩
          have HPQ : Hid (personsL Q = personsL P) := Lib.hid (by
            rw [HPE.out, HQE.out]
            exact (turn_persons HTD.out HK1.out.2.2.1 HK1.out.2.2.2.1).symm)
          have HFAC : Hid (∀ pe ki : Int, (chosen (ofPK pe ki) P P.length).map Prod.snd = (chosen (ofPK pe ki) Q Q.length).map Prod.snd) := Lib.hid fun pe ki => by
            rw [HPE.out, HQE.out]
            exact turn_facts HTD.out HK1.out.2.2.1 HK1.out.2.2.2.1 HK1.out.2.2.2.2 pe ki
          have lPs : (personsL P).length ≤ 10000 := by
            have h1 := foldU_len (pesL (forceL P)) []
            have h2 := pesL_len (forceL P)
            have h3 := forceL_len P
            have h4 := HN.out.1
            have h5 : personsL P = (pesL (forceL P)).foldl insU [] := rfl
            rw [h5]
            simp only [List.length_nil] at h1
            omega
          obtain ⟨Ps, hPs⟩ : ∃ z, personsL P = z := ⟨_, rfl⟩
          have HPV : Hid (∀ W, Below w14.heap.size w14 W → Calls Tryz.prog 20 #[.agg #[.slice A3 n n]] W fun e w' => (∃ v, e = .returned v ∧ OwnU W.heap.size v Ps w') ∧ Below W.heap.size W w') := Lib.hid fun W hW => by
            have h := vi_Persons P A3 n W (by rw [HN.out.1]; omega) (HP14.out.below hW)
            rw [HN.out.1, hPs] at h
            exact h
          have HPU : Hid (∀ W, Below w14.heap.size w14 W → Calls Tryz.prog 20 #[.agg #[.slice A5 n n]] W fun e w' => (∃ v, e = .returned v ∧ OwnU W.heap.size v Ps w') ∧ Below W.heap.size W w') := Lib.hid fun W hW => by
            have h := vi_Persons Q A5 n W (by rw [HN.out.2]; omega) (HQ14.out.below hW)
            rw [HN.out.2, HPQ.out, hPs] at h
            exact h
          have HFA : Hid (∀ (pe ki : Int) W, Below w14.heap.size w14 W → Calls Tryz.prog 21 #[.agg #[.slice A3 n n], .int .u32 pe, .int .i64 ki] W fun e w' => (∃ v, e = .returned v ∧ Own encK 9 42 W.heap.size v (chosen (ofPK pe ki) P P.length) w') ∧ Below W.heap.size W w') := Lib.hid fun pe ki W hW => by
            have h := vi_Facts P A3 n pe ki W (by rw [HN.out.1]; omega) (HP14.out.below hW)
            rw [show (Value.slice A3 P.length n) = Value.slice A3 n n by rw [HN.out.1]] at h
            exact h
          have HFB : Hid (∀ (pe ki : Int) W, Below w14.heap.size w14 W → Calls Tryz.prog 21 #[.agg #[.slice A5 n n], .int .u32 pe, .int .i64 ki] W fun e w' => (∃ v, e = .returned v ∧ Own encK 9 42 W.heap.size v (chosen (ofPK pe ki) Q Q.length) w') ∧ Below W.heap.size W w') := Lib.hid fun pe ki W hW => by
            have h := vi_Facts Q A5 n pe ki W (by rw [HN.out.2]; omega) (HQ14.out.below hW)
            rw [show (Value.slice A5 Q.length n) = Value.slice A5 n n by rw [HN.out.2]] at h
            exact h
          rw [hPs] at lPs
          have HLC : Hid (∀ W, Below w14.heap.size w14 W → At8 W fb 0 f1 ∧ At8 W gb 0 g1) := Lib.hid fun W hW => HLF.out W (bTrans HB14.out hW)
          have HAW3 : Hid (∀ W, Below w14.heap.size w14 W → Calls Tryz.prog 16 #[] W fun e w' => e = .returned (.bool true) ∧ Below W.heap.size W w') := Lib.hid fun W hW => HAW.out W (bTrans HB14.out hW)
          clear HM hPs HP13 HQ13 HB13 HK13 HL1 HL2 HAT1 HAT2 V8 V9 HP14 HQ14 HPQ HPE HQE HTD HK1 HLF HAW
          go_upto_region 17 with fail
          obtain ⟨Lp, hLp⟩ : ∃ z, [0, f1.pe, g1.pe] ++ Ps = z := ⟨_, rfl⟩
          go_cut [115, 116, 117] from 108 to 117 (fun pv nv iv wx => ∃ (D : Option Addr) (cd : Nat), pv = .slice D Lp.length cd ∧ nv = .int .i64 Lp.length ∧ iv = .int .i64 0 ∧ Hid (RU wx D Lp) ∧ Hid (Below w14.heap.size w14 wx))
          case first =>
            refine wp_region_putd (SPu ⟨w14.heap.size, fb, gb, vb, n, A3, f1.pe, g1.pe, Ps⟩) klu [108, 109, 110, 111, 112, 113, 114, 115, 116, 117] (by rfl) (by kernel_rfl) (SPu.st _) (by kernel_rfl) (by rfl) ?_ (ops_all3 ?_) ?_
            · intro t hnd
              by_cases h : t ∈ [4, 5, 14, 108, 109, 110, 111, 112, 113, 114, 115, 116, 117]
              · simp only [List.mem_cons, List.not_mem_nil, or_false] at h
                rcases h with rfl | rfl | rfl | h
                · exact rfl
                · exact rfl
                · exact rfl
                · exfalso
                  rcases h with rfl | rfl | rfl | rfl | rfl | rfl | rfl | rfl | rfl | rfl
                  all_goals exact Bool.noConfusion (show false = true from hnd)
              · exact SPu.free _ _ _ _ h
            · refine ops_cons (by exact opOk2_val rfl rfl (y_field (p := .pointer (some ⟨fb, 0, none⟩)) (p' := .pointer (some ⟨fb, 1, none⟩)) rfl (by kernel_rfl) (.inl rfl) (fun _ _ h => h) (fun W => by go_simp) (fun _ => rfl))) ?_
              refine ops_cons (by exact opOk2_val rfl rfl (y_load (p := .pointer (some ⟨fb, 1, none⟩)) rfl (by kernel_rfl) (.inl rfl) (fun _ _ h => h) (fun W hW => ⟨.int .u32 f1.pe, by have c := (HLC.out W hW).1.c1; simp only [Nat.zero_add] at c; go_simp, rfl⟩))) ?_
              refine ops_cons (by exact opOk2_val rfl rfl (y_field (p := .pointer (some ⟨gb, 0, none⟩)) (p' := .pointer (some ⟨gb, 1, none⟩)) rfl (by kernel_rfl) (.inl rfl) (fun _ _ h => h) (fun W => by go_simp) (fun _ => rfl))) ?_
              refine ops_cons (by exact opOk2_val rfl rfl (y_load (p := .pointer (some ⟨gb, 1, none⟩)) rfl (by kernel_rfl) (.inl rfl) (fun _ _ h => h) (fun W hW => ⟨.int .u32 g1.pe, by have c := (HLC.out W hW).2.c1; simp only [Nat.zero_add] at c; go_simp, rfl⟩))) ?_
              refine ops_cons (by exact opOk2_val rfl rfl (fun a W hb hsp => by
                have e1 : a.eval (.tmp 109) = .int .u32 f1.pe := hsp 109 (by kernel_rfl) (.inl rfl)
                have e2 : a.eval (.tmp 111) = .int .u32 g1.pe := hsp 111 (by kernel_rfl) (.inl rfl)
                exact y_new (v := .slice (some ⟨W.heap.size, 0, none⟩) 3 3) (SPu.st _) (build_three rfl rfl e1 e2 W) hb (bAlloc _ _) (own_three hb.size))) ?_
              refine ops_cons (by exact opOk2_val rfl rfl (y_load (p := .pointer (some ⟨vb, 0, none⟩)) rfl (by kernel_rfl) (.inl rfl) (fun _ _ h => h) (fun W hW => ⟨.agg #[.slice A3 n n], by have c := (HKV.out W hW).1; go_simp, rfl⟩))) ?_
              refine ops_cons (by exact opOk2_call1 rfl rfl rfl (SPu.st _) (by kernel_rfl) (.inl rfl) (fun args W => by go_simp) (fun v W hW h => by
                rw [show v = .agg #[.slice A3 n n] from h]
                exact (HPV.out W hW).mono fun e w' ⟨⟨v', he, ho⟩, hb'⟩ => ⟨v', he, hb', ownU_base ho hW.size⟩)) ?_
              refine ops_cons (by exact opOk2_val rfl rfl (y_appP rfl rfl (by kernel_rfl) (by kernel_rfl) rfl lPs)) ?_
              refine ops_cons (by exact opOk2_val rfl rfl (y_len (n := ([0, f1.pe, g1.pe] ++ Ps).length) rfl (by kernel_rfl) (.inl rfl) (fun v w h => by obtain ⟨A, c, e, _⟩ := own_sl encU_len h; exact ⟨A, c, e⟩) (fun _ => rfl))) ?_
              refine ops_cons (by exact opOk2_val rfl rfl (y_movec rfl (fun _ => rfl))) ?_
              exact fun i o ho => absurd ho (by simp)
            · intro vs W hb hsp
              have e115 : OwnU w14.heap.size (vs 115) ([0, f1.pe, g1.pe] ++ Ps) W := hsp 115 rfl
              rw [hLp] at e115
              obtain ⟨D, cd, e1, ru⟩ := OwnU.ru e115
              have e116 : vs 116 = .int .i64 (Lp.length : Nat) := by rw [← hLp]; exact hsp 116 rfl
              have e117 : vs 117 = .int .i64 0 := hsp 117 rfl
              clear e115 hsp hLp
              simp only [putAll]
              go_simp
              go_step
              go_meet
              exact ⟨D, cd, rfl, rfl, rfl, Lib.hid ru, Lib.hid hb⟩
          case rest =>
          obtain ⟨D, cd, rfl, rfl, rfl, HRU, HBr⟩ := hcut
          obtain ⟨w15, rfl⟩ : ∃ x : World, x = wc := ⟨_, rfl⟩
          have HB15 : Hid (Below w3.heap.size w3 w15) := Lib.hid (bTrans HB14.out HBr.out)
          have lLp : Lp.length ≤ 20000 := by rw [← hLp, List.length_append]; simp only [List.length_cons, List.length_nil]; omega
          clear hLp
          go_wp2
          go_loopg [117] Lp.length (fun m iv wr => ∃ k : Nat, k + m = Lp.length ∧ iv = .int .i64 k ∧ Hid (Below w15.heap.size w15 wr))
          case atStart => exact ⟨0, by omega, rfl, Lib.hid (Below.refl _ _)⟩
          case round =>
            obtain ⟨k, hk, rfl, HB⟩ := hrel
            by_cases hlt : k < Lp.length
            · obtain ⟨g2, off2, rfl, _, hat⟩ := (RU.below HRU.out HB.out).open_ (by intro h; simp [h] at hlt)
              obtain ⟨pe, hpe⟩ : ∃ x, Lp[k]? = some x := ⟨_, List.getElem?_eq_getElem hlt⟩
              have C0 := hat k pe hpe
              have hlt2 : (k : Int) < (Lp.length : Int) := by omega
              clear hat hpe
              go_wp2
              clear C0
              go_loopg [18] 17 (fun m iv wk => ∃ ki : Nat, ki + m = 18 ∧ iv = .int .i64 ki ∧ Hid (Below w15.heap.size w15 wk))
              case atStart => exact ⟨1, rfl, rfl, HB⟩
              case round =>
                obtain ⟨ki, hki, rfl, HBk⟩ := hrel
                by_cases hk18 : ki < 18
                · have hk2 : (ki : Int) < 18 := by omega
                  obtain ⟨V1, V2⟩ := HKV.out _ (bTrans HBr.out HBk.out)
                  have HX : Hid (Below w14.heap.size w14 wr.drew) := Lib.hid (bTrans (bTrans HBr.out HBk.out) (bDrew _))
                  go_wp2_with fail
                  go_region_held3 (fun W => W.cell? ⟨vb, 0, none⟩ = some (.slice A3 n n) ∧ W.cell? ⟨ub, 0, none⟩ = some (.slice A5 n n)) (first | exact HKV.out _ HX.out | go_keep) (first | (go_at_call 21; (with_reducible refine (HFA.out _ _ _ HX.out).mono ?_); rintro e wx ⟨⟨vx, rfl, ox⟩, hbx⟩; replace HX := Lib.hid (bTrans HX.out hbx)) | (go_at_call 21; (with_reducible refine (HFB.out _ _ _ HX.out).mono ?_); rintro e wy ⟨⟨vy, rfl, oy⟩, hby⟩; replace HX := Lib.hid (bTrans HX.out hby)))
                  obtain ⟨AX, cx, rfl, _, sx⟩ := own_sl encK_len (own_bel ox hby)
                  obtain ⟨AY, cy, rfl, _, sy⟩ := own_sl encK_len oy
                  have hmp := HFAC.out pe (ki : Int)
                  have hXl : (chosen (ofPK pe (ki : Int)) P P.length).length ≤ 30 := by have h1 := chosen_len (ofPK pe (ki : Int)) P P.length; have h2 := HN.out.1; omega
                  generalize chosen (ofPK pe (ki : Int)) P P.length = X at *
                  generalize chosen (ofPK pe (ki : Int)) Q Q.length = Y at *
                  have hlen : Y.length = X.length := by have := congrArg List.length hmp; rw [List.length_map, List.length_map] at this; exact this.symm
                  rw [hlen]
                  have HSX := Lib.hid sx
                  have HSY := Lib.hid sy
                  have HMP := Lib.hid hmp
                  have HLY := Lib.hid hlen
                  have HBY : Hid (∀ W, Below wy.heap.size wy W → Below w15.heap.size w15 W) := Lib.hid fun W hW => bTrans HBk.out (bTrans (bDrew _) (bTrans hbx (bTrans hby hW)))
                  clear ox oy hbx hby sx sy hmp hlen V1 V2 HX
                  go_wp2
                  go_loopg [140] X.length (fun m iv wj => ∃ j : Nat, j + m = X.length ∧ iv = .int .i64 j ∧ Hid (Below wy.heap.size wy wj))
                  case atStart => exact ⟨0, by omega, rfl, Lib.hid (Below.refl _ _)⟩
                  case round =>
                    obtain ⟨j, hj, rfl, HBj⟩ := hrel
                    by_cases hjl : j < X.length
                    · obtain ⟨x, hx⟩ : ∃ x, X[j]? = some x := ⟨_, List.getElem?_eq_getElem hjl⟩
                      obtain ⟨ny, hy⟩ := map_get HMP.out hx
                      obtain ⟨c1', d1, rfl, _, q1⟩ := HSX.out (by intro h; simp [h] at hjl)
                      obtain ⟨c2', d2, rfl, _, q2⟩ := HSY.out (by intro h; rw [h] at hy; simp at hy)
                      have hjl2 : (j : Int) < (X.length : Int) := by omega
                      have hjl3 : (j : Int) < (Y.length : Int) := by have := HLY.out; omega
                      have G1 := bCell HBj.out (q1 j _ hx 1 _ rfl)
                      have G2 := bCell HBj.out (q1 j _ hx 2 _ rfl)
                      have G3 := bCell HBj.out (q1 j _ hx 3 _ rfl)
                      have G4 := bCell HBj.out (q1 j _ hx 4 _ rfl)
                      have G5 := bCell HBj.out (q1 j _ hx 5 _ rfl)
                      have G6 := bCell HBj.out (q1 j _ hx 6 _ rfl)
                      have G7 := bCell HBj.out (q1 j _ hx 7 _ rfl)
                      have G8 := bCell HBj.out (q1 j _ hx 8 _ rfl)
                      have H1 := bCell HBj.out (q2 j _ hy 1 _ rfl)
                      have H2 := bCell HBj.out (q2 j _ hy 2 _ rfl)
                      have H3 := bCell HBj.out (q2 j _ hy 3 _ rfl)
                      have H4 := bCell HBj.out (q2 j _ hy 4 _ rfl)
                      have H5 := bCell HBj.out (q2 j _ hy 5 _ rfl)
                      have H6 := bCell HBj.out (q2 j _ hy 6 _ rfl)
                      have H7 := bCell HBj.out (q2 j _ hy 7 _ rfl)
                      have H8 := bCell HBj.out (q2 j _ hy 8 _ rfl)
                      obtain ⟨nx, fx⟩ := x
                      simp only at G1 G2 G3 G4 G5 G6 G7 G8 H1 H2 H3 H4 H5 H6 H7 H8
                      have hq : ∀ W : World, (binOp .neq 26 (.agg (FA fx)) (.agg (FA fx))).run Tryz.prog W = .ok (.bool false) W := run_neFact fx
                      unfold FA at hq
                      clear hx hy q1 q2
                      go_wp2_with fail
                      go_quiet (fail)
                      clear G1 G2 G3 G4 G5 G6 G7 G8 H1 H2 H3 H4 H5 H6 H7 H8 hq
                      go_wp2
                      go_roundg (X.length - (j + 1))
                      case measure => omega
                      case rel => exact ⟨j + 1, by omega, by go_num, Lib.hid (bTrans HBj.out (bDrewN _ _))⟩
                    · obtain rfl : j = X.length := by omega
                      have HBF := Lib.hid (HBY.out _ HBj.out)
                      go_wp2
                      go_roundg (18 - (ki + 1))
                      case measure => omega
                      case rel => exact ⟨ki + 1, by omega, by go_num, HBF⟩
                · obtain rfl : ki = 18 := by omega
                  go_wp2
                  go_roundg (Lp.length - (k + 1))
                  case measure => omega
                  case rel => exact ⟨k + 1, by omega, by go_num, HBk⟩
            · obtain rfl : k = Lp.length := by omega
              obtain ⟨q, hq⟩ : ∃ q, Ps.length = q := ⟨_, rfl⟩
              have HP2 : Hid (∀ W, Below w14.heap.size w14 W → Calls Tryz.prog 20 #[.agg #[.slice A3 n n]] W fun e w' => (∃ C cp, e = .returned (.slice C q cp)) ∧ Below W.heap.size W w') := Lib.hid fun W hW => (HPV.out W hW).mono fun e w' ⟨⟨v, he, ho⟩, hb⟩ => by
                obtain ⟨C, cp, rfl, _⟩ := own_sl encU_len ho
                rw [hq] at he
                exact ⟨⟨C, cp, he⟩, hb⟩
              have HU2 : Hid (∀ W, Below w14.heap.size w14 W → Calls Tryz.prog 20 #[.agg #[.slice A5 n n]] W fun e w' => (∃ C cp, e = .returned (.slice C q cp)) ∧ Below W.heap.size W w') := Lib.hid fun W hW => (HPU.out W hW).mono fun e w' ⟨⟨v, he, ho⟩, hb⟩ => by
                obtain ⟨C, cp, rfl, _⟩ := own_sl encU_len ho
                rw [hq] at he
                exact ⟨⟨C, cp, he⟩, hb⟩
              obtain ⟨V1, V2⟩ := HKV.out _ (bTrans HBr.out HB.out)
              have HX : Hid (Below w14.heap.size w14 wr.drew) := Lib.hid (bTrans (bTrans HBr.out HB.out) (bDrew _))
              have HFIN : Hid (∀ W, Below w14.heap.size w14 W → Below w.heap.size w W) := Lib.hid fun W hW => HBW.out W (bTrans HB14.out hW)
              clear hq HPV HPU
              go_wp2_with fail
              go_region_held3 (fun W => W.cell? ⟨vb, 0, none⟩ = some (.slice A3 n n) ∧ W.cell? ⟨ub, 0, none⟩ = some (.slice A5 n n)) (first | exact HKV.out _ HX.out | go_keep) (first | (go_at_call 16; (with_reducible refine (HAW3.out _ HX.out).mono ?_); rintro e wn ⟨rfl, hbn⟩; replace HX := Lib.hid (bTrans HX.out hbn); clear hbn) | (go_at_call 20; (with_reducible refine (HP2.out _ HX.out).mono ?_); rintro e wn ⟨⟨C, cp, rfl⟩, hbn⟩; replace HX := Lib.hid (bTrans HX.out hbn); clear hbn) | (go_at_call 20; (with_reducible refine (HU2.out _ HX.out).mono ?_); rintro e wn ⟨⟨C', cp', rfl⟩, hbn⟩; replace HX := Lib.hid (bTrans HX.out hbn); clear hbn))
              have HE := Lib.hid (HFIN.out _ HX.out)
              clear HX V1 V2
              go_wp2
              go_ret
              exact ⟨rfl, HE.out⟩
end Go.Proofs.YtdkbbngedjiheaaGreatDoor
