/- The insertion sort of a block: it is the stable sort. -/
import Derived.Test.YtkbpdbfldijeeaaDoorStC
import Derived.BigQuiet
import Derived.Shelf.SlSortCmp.QuietGrown
namespace Go.Proofs.YtkbpdbfldijeeaaDoor
open Go.RowKit Go.Sort Go.BigFrame

theorem ins_done {S1 L1 L2 : List El} {x : El} (hL : L1 ++ L2 = ss lt S1) (h2 : ∀ y ∈ L2, lt x y = true) (h1 : L1 = [] ∨ ∃ L z, L1 = L ++ [z] ∧ lt x z = false) : L1 ++ x :: L2 = ss lt (S1 ++ [x]) := by
  have hs : Srt lt L1 := by
    have := srt_ss lt_swk S1
    rw [← hL] at this
    exact (List.pairwise_append.1 this).1
  have h3 : ∀ l ∈ L1, lt x l = false := by
    rcases h1 with rfl | ⟨L, z, rfl, hz⟩
    · intro l hl; cases hl
    · intro l hl
      rcases List.mem_append.1 hl with h4 | h4
      · exact lt_swk.tr _ _ _ ((List.pairwise_append.1 hs).2.2 l h4 z (by simp)) hz
      · rw [List.mem_singleton.1 h4]; exact hz
  have e1 := mg_split (lt := lt) L1 L2 [] [x] (fun l hl y hy => by rw [List.mem_singleton.1 hy]; exact h3 l hl) (fun y hy => by cases hy)
  have e2 := mg_split (lt := lt) [] L2 [x] [] (fun y hy => by cases hy) (fun y hy l hl => by rw [List.mem_singleton.1 hy]; exact h2 l hl)
  simp only [List.nil_append, List.append_nil, nil_mg, mg_nil] at e1 e2
  rw [← ss_snoc lt_swk, ← hL, e1, e2]
  simp

theorem Rw.grow {α : Type} {enc : α → List Value} {k : Nat} {e : TypeId} {g cap : Nat} {l : List α} {w : World} (h : Rw enc k e g cap l w) (os : Array Obj) : Rw enc k e g cap l (Sort.grow w os) := by
  have hl := h.lt
  obtain ⟨cur, hc, hr⟩ := h
  exact ⟨cur, (heap_grow_old w os hl).trans hc, hr⟩
theorem gGrow {g : Nat} {a b : World} (h : a.grownBy b (some g)) (n : Nat) (os : Array Obj) : a.grownBy (Sort.grow (b.drewN n) os) (some g) :=
  ⟨h.os, h.tape, h.output, by rw [size_grow]; exact Nat.le_trans h.size (Nat.le_add_right _ _), fun i hi hn => (heap_grow_old _ os (show i < (b.drewN n).heap.size from Nat.lt_of_lt_of_le hi h.size)).trans (h.block i hi hn)⟩

set_option maxHeartbeats 1000000 in
theorem insSort (g cap N a b : Nat) (A S Z : List El) (w : World) (hN : (A ++ S ++ Z).length = N) (hn : N ≤ 1000000) (ha : A.length = a) (hb : a + S.length = b) (hr : Row g cap (A ++ S ++ Z) w) :
    Calls Tryd.prog 45 #[.slice (some ⟨g, 0, none⟩) N cap, .int .i64 a, .int .i64 b, .func (.func 23) #[] #[]] w fun e w' =>
      e = .returned (.tuple #[]) ∧ w.grownBy w' (some g) ∧ Row g cap (A ++ ss lt S ++ Z) w' := by
  have hbN : b ≤ N := by simp at hN; omega
  have hab : a ≤ b := by omega
  have HH := Lib.hid (And.intro ha hb)
  clear hN ha hb
  go_enter Tryd.func45, Tryd.ntmps45
  go_wp2
  go_loopw [8] (fun iv wr => ∃ i : Nat, a < i ∧ i ≤ b + 1 ∧ iv = .int .i64 i ∧ w.grownBy wr (some g) ∧ ∃ S1 S2 : List El, Row g cap (A ++ ss lt S1 ++ S2 ++ Z) wr ∧ S = S1 ++ S2 ∧ (i = a + S1.length ∧ i ≤ b ∨ S2 = [] ∧ b ≤ i)) (fun iv _ => b + 1 - (intOf iv).toNat)
  case atStart =>
    refine ⟨a + 1, by omega, by omega, by go_num, World.grownBy.refl _ _, ?_⟩
    cases S with
    | nil => exact ⟨[], [], by simpa [ss] using hr, rfl, .inr ⟨rfl, by have := HH.out; simp at this; omega⟩⟩
    | cons s S => exact ⟨[s], S, by simpa [ss_one] using hr, rfl, .inl ⟨rfl, by have := HH.out; simp at this; omega⟩⟩
  case round =>
    obtain ⟨i, hai, hib, rfl, hg, S1, S2, hrr, hS, hi⟩ := hrel
    by_cases hlt : i < b
    · have hL : a + S1.length = i ∧ i + S2.length = b := by
        have h1 := HH.out.2
        rw [hS, List.length_append] at h1
        rcases hi with ⟨h2, h3⟩ | ⟨h2, h3⟩ <;> omega
      obtain ⟨⟨xa, fa, aa, ba⟩, S2, rfl⟩ := List.exists_cons_of_length_pos (show 0 < S2.length by omega)
      have HS0 := Lib.hid hS
      have HR := Lib.hid hrr
      have HL := Lib.hid hL
      clear hi hS hrr hr hL
      obtain ⟨wo, rfl⟩ : ∃ wo : World, wo = wr := ⟨_, rfl⟩
      go_wp2
      go_loopw [9] (fun jv wr => ∃ j : Nat, a ≤ j ∧ j ≤ i ∧ jv = .int .i64 j ∧ w.grownBy wr (some g) ∧ ∃ L1 L2 : List El, Row g cap (A ++ L1 ++ (xa, fa, aa, ba) :: (L2 ++ S2 ++ Z)) wr ∧ L1 ++ L2 = ss lt S1 ∧ j = a + L1.length ∧ ∀ y ∈ L2, lt (xa, fa, aa, ba) y = true) (fun jv _ => (intOf jv).toNat)
      case atStart => exact ⟨i, by omega, by omega, rfl, hg, ss lt S1, [], by simpa using HR.out, by simp, by rw [ss_length]; have := HL.out; omega, by simp⟩
      case round =>
        obtain ⟨j, haj, hji, rfl, hg2, L1, L2, hr2, hL12, hj, hx⟩ := hrel
        have HX := Lib.hid (And.intro hL12 hx)
        clear hL12 hx
        have fin : (L1 = [] ∨ ∃ L z, L1 = L ++ [z] ∧ lt (xa, fa, aa, ba) z = false) → ∀ w2, Row g cap (A ++ L1 ++ (xa, fa, aa, ba) :: (L2 ++ S2 ++ Z)) w2 → Row g cap (A ++ ss lt (S1 ++ [(xa, fa, aa, ba)]) ++ S2 ++ Z) w2 := fun h w2 hw => by
          rw [← ins_done HX.out.1 HX.out.2 h]; simpa using hw
        have FIN := Lib.hid fin
        clear fin
        by_cases hja : a < j
        · have hgt : decide ((j : Int) > (a : Int)) = true := by simp; omega
          have hgt2 : decide ((a : Int) < (j : Int)) = true := by simp; omega
          obtain ⟨L1, ⟨xb, fb, ab, bb⟩, rfl⟩ : ∃ L z, L1 = L ++ [z] := by
            rcases List.eq_nil_or_concat L1 with h | ⟨L, z, h⟩
            · subst h; rw [List.length_nil] at hj; omega
            · exact ⟨L, z, by rw [h, List.concat_eq_append]⟩
          rw [List.length_append, List.length_singleton] at hj
          have hr3 : Row g cap ((A ++ L1) ++ (xb, fb, ab, bb) :: ([] ++ (xa, fa, aa, ba) :: (L2 ++ S2 ++ Z))) wr := by simpa using hr2
          have hAL : (A ++ L1).length = j - 1 := by have := HH.out; simp; omega
          have gy := get_mid (A ++ L1) ([] ++ (xa, fa, aa, ba) :: (L2 ++ S2 ++ Z)) (xb, fb, ab, bb) hAL
          have gx : ((A ++ L1) ++ (xb, fb, ab, bb) :: ([] ++ (xa, fa, aa, ba) :: (L2 ++ S2 ++ Z)))[j]? = some (xa, fa, aa, ba) := by
            have := get_mid ((A ++ L1) ++ [(xb, fb, ab, bb)]) (L2 ++ S2 ++ Z) (xa, fa, aa, ba) (n := j) (by rw [List.length_append, hAL]; simp; omega)
            simpa using this
          obtain ⟨pa, hpa⟩ : ∃ p, j * 2 = p := ⟨_, rfl⟩
          obtain ⟨pb, hpb⟩ : ∃ p, (j - 1) * 2 = p := ⟨_, rfl⟩
          have hgw := hr3.lt
          have c1 : ∀ n os, (Sort.grow (wr.drewN n) os).cell? ⟨g, pa, none⟩ = some (.int .i64 xa) := fun n os => cell_grown hgw (hpa ▸ Rw.cell hr3 gx (j := 0) rfl) n os
          have c2 : ∀ n os, (Sort.grow (wr.drewN n) os).cell? ⟨g, pa + 1, none⟩ = some (.func fa aa ba) := fun n os => cell_grown hgw (hpa ▸ Rw.cell hr3 gx (j := 1) rfl) n os
          have c3 : ∀ n os, (Sort.grow (wr.drewN n) os).cell? ⟨g, pb, none⟩ = some (.int .i64 xb) := fun n os => cell_grown hgw (hpb ▸ Rw.cell hr3 gy (j := 0) rfl) n os
          have c4 : ∀ n os, (Sort.grow (wr.drewN n) os).cell? ⟨g, pb + 1, none⟩ = some (.func fb ab bb) := fun n os => cell_grown hgw (hpb ▸ Rw.cell hr3 gy (j := 1) rfl) n os
          have HJ := Lib.hid hj
          have HSW := Lib.hid hr3
          have HJ2 := Lib.hid hAL
          have GX := Lib.hid gx
          have GY := Lib.hid gy
          clear hj hAL gx gy hr2 hr3
          have w1 : IntKind.i64.wrap ((j : Int) - 1) = (j : Int) - 1 := IntWalk.i64_in _ (by omega)
          have w2 : ((j : Int) - 1).toNat = j - 1 := by omega
          have hw3 : (0 : Int) ≤ (j : Int) - 1 := by omega
          have hw4 : (j : Int) - 1 < (N : Int) := by omega
          have hw5 : (j : Int) < (N : Int) := by omega
          go_wp2_with fail
          refine wp_region_quiet_grown (by kernel_rfl) (by kernel_rfl) ?_
          repeat (go_big_quiet_step (refine Calls.grown_of (cmpD xa xb fa fb aa ba ab bb _)))
          refine wpQuiet_nil ?_
          intro _ hw'
          obtain ⟨⟨nq, osq⟩, hw''⟩ := hw'
          subst hw''
          have hg3 := gGrow hg2 nq osq
          have hr4 : Row g cap _ _ := Rw.grow (HSW.out.drewN nq) osq
          have hsw := Row.swapUp hr4 (i := j - 1) (j := j) HJ2.out (by simp; omega)
          rw [hpa, hpb] at hsw
          have HR4 := Lib.hid hr4
          clear hr4
          generalize Sort.grow (wr.drewN nq) osq = wq at *
          obtain ⟨hc1, hc2⟩ := cf_neg xa xb
          generalize cf xa xb = cc at *
          by_cases hlt2 : xa < xb
          · have hcc := hc1 hlt2
            clear hc1 hc2
            have d1 : wq.cell? ⟨g, pa, none⟩ = some (.int .i64 xa) := hpa ▸ Rw.cell HR4.out GX.out (j := 0) rfl
            have d2 : wq.cell? ⟨g, pa + 1, none⟩ = some (.func fa aa ba) := hpa ▸ Rw.cell HR4.out GX.out (j := 1) rfl
            have d3 : wq.cell? ⟨g, pb, none⟩ = some (.int .i64 xb) := hpb ▸ Rw.cell HR4.out GY.out (j := 0) rfl
            have d4 : wq.cell? ⟨g, pb + 1, none⟩ = some (.func fb ab bb) := hpb ▸ Rw.cell HR4.out GY.out (j := 1) rfl
            have f1 : wq.frozen? ⟨g, pa, none⟩ = false := HR4.out.frozen _
            have f2 : wq.frozen? ⟨g, pa + 1, none⟩ = false := HR4.out.frozen _
            have f3 : wq.frozen? ⟨g, pb, none⟩ = false := HR4.out.frozen _
            have f4 : wq.frozen? ⟨g, pb + 1, none⟩ = false := HR4.out.frozen _
            have n1 : ¬ pa = pb := by omega
            have n2 : ¬ pa + 1 = pb := by omega
            have n3 : ¬ pa = pb + 1 := by omega
            have n4 : ¬ pb = pa := by omega
            have n5 : ¬ pb + 1 = pa := by omega
            have n6 : ¬ pb = pa + 1 := by omega
            have st1 := store_func (P := Tryd.prog) fa aa ba
            have st2 := store_func (P := Tryd.prog) fb ab bb
            have HS := Lib.hid hsw
            clear hsw c1 c2 c3 c4
            go_wp2_with fail
            have hz := gDrew (gTrans hg3 HS.out.1)
            have HZ := Lib.hid hz
            clear hz
            go_region
            all_goals go_wp2
            all_goals refine ⟨⟨j - 1, by omega, by omega, by go_num, HZ.out, L1, (xb, fb, ab, bb) :: L2, Rw.drew (w := (wq.setCells g pa (enc (xb, fb, ab, bb))).setCells g pb (enc (xa, fa, aa, ba))) (by simpa using HS.out.2), by simpa using HX.out.1, by have := HJ.out; omega, ?_⟩, by simp [intOf]; omega⟩
            all_goals (intro y hy; rcases List.mem_cons.1 hy with rfl | hy)
            all_goals first | exact HX.out.2 _ hy | exact decide_eq_true hlt2
          · have hcc := hc2 hlt2
            clear hc1 hc2
            have HS := Lib.hid hsw
            clear hsw c1 c2 c3 c4
            go_wp2
            refine ⟨⟨i + 1, by omega, by omega, by go_num, hg3, S1 ++ [(xa, fa, aa, ba)], S2, FIN.out (.inr ⟨L1, _, rfl, decide_eq_false hlt2⟩) _ (by simpa using HR4.out), by rw [HS0.out]; simp, .inl ⟨?_, by omega⟩⟩, by simp [intOf]; omega⟩
            have := HL.out; simp; omega
        · have hgt : decide ((j : Int) > (a : Int)) = false := by simp; omega
          have hgt2 : decide ((a : Int) < (j : Int)) = false := by simp; omega
          have hL0 : L1 = [] := List.length_eq_zero_iff.1 (by omega)
          have HF := Lib.hid (FIN.out (.inl hL0) wr hr2)
          have hg3 := gGrow hg2 0 #[]
          clear hj hr2 hL0
          go_wp2_with fail
          go_quiet (fail)
          go_wp2
          refine ⟨⟨i + 1, by omega, by omega, by go_num, ?_, S1 ++ [(xa, fa, aa, ba)], S2, HF.out.drewN _, by rw [HS0.out]; simp, .inl ⟨?_, by omega⟩⟩, by simp [intOf]; omega⟩
          · have := gGrow hg2 nq #[]; rwa [grow_empty] at this
          · have := HL.out; simp; omega
    · have h2 : S2 = [] := by
        rcases hi with ⟨h2, h3⟩ | ⟨h2, h3⟩
        · have h1 := HH.out.2
          rw [hS, List.length_append] at h1
          exact List.length_eq_zero_iff.1 (by omega)
        · exact h2
      subst h2
      rw [List.append_nil] at hS hrr
      have HR := Lib.hid (hS ▸ hrr)
      clear hS hrr hr hi
      go_wp2
      go_end0
      exact ⟨rfl, hg, HR.out⟩
end Go.Proofs.YtkbpdbfldijeeaaDoor
