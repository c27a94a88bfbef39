/- The insertion sort of a block: it is the stable sort. -/
import Derived.Test.YtdpejolpjhlibaaGreatDoorSnK
import Derived.BigQuiet
import Derived.Shelf.SlSortCmp.QuietGrown
namespace Go.Proofs.YtdpejolpjhlibaaGreatDoor
open Go.RowKit Go.Sort Go.BigFrame

theorem cmpK' (x y : Int) (f g : Fa) (w : World) : Calls Tryz.prog 38 #[.agg #[.int .i64 x, .int .u32 f.id, .int .u32 f.pe, .int .i64 f.ki, .int .i64 f.fr, .int .i64 f.to, .string f.co, .int .i64 f.nu, .string f.tx], .agg #[.int .i64 y, .int .u32 g.id, .int .u32 g.pe, .int .i64 g.ki, .int .i64 g.fr, .int .i64 g.to, .string g.co, .int .i64 g.nu, .string g.tx]] w fun e w' => e = .returned (.int .i64 (cf x y)) ∧ ∃ q os', w' = grow (w.drewN q) os' := cmpK (x, f) (y, g) w

theorem ins_done {S1 L1 L2 : List Kn} {x : Kn} (hL : L1 ++ L2 = ss lt S1) (h2 : ∀ y ∈ L2, lt x y = true) (h1 : L1 = [] ∨ ∃ L z, L1 = L ++ [z] ∧ lt x z = false) : L1 ++ x :: L2 = ss lt (S1 ++ [x]) := by
  have hs : Srt lt L1 := by
    have := srt_ss lt_swk S1
    rw [← hL] at this
    exact (List.pairwise_append.1 this).1
  have h3 : ∀ l ∈ L1, lt x l = false := by
    rcases h1 with rfl | ⟨L, z, rfl, hz⟩
    · intro l hl; cases hl
    · intro l hl
      rcases List.mem_append.1 hl with h4 | h4
      · exact lt_swk.tr _ _ _ ((List.pairwise_append.1 hs).2.2 l h4 z (by simp)) hz
      · rw [List.mem_singleton.1 h4]; exact hz
  have e1 := mg_split (lt := lt) L1 L2 [] [x] (fun l hl y hy => by rw [List.mem_singleton.1 hy]; exact h3 l hl) (fun y hy => by cases hy)
  have e2 := mg_split (lt := lt) [] L2 [x] [] (fun y hy => by cases hy) (fun y hy l hl => by rw [List.mem_singleton.1 hy]; exact h2 l hl)
  simp only [List.nil_append, List.append_nil, nil_mg, mg_nil] at e1 e2
  rw [← ss_snoc lt_swk, ← hL, e1, e2]
  simp

theorem Rw.grow {α : Type} {enc : α → List Value} {k : Nat} {e : TypeId} {g cap : Nat} {l : List α} {w : World} (h : Rw enc k e g cap l w) (os : Array Obj) : Rw enc k e g cap l (Sort.grow w os) := by
  have hl := h.lt
  obtain ⟨cur, hc, hr⟩ := h
  exact ⟨cur, (heap_grow_old w os hl).trans hc, hr⟩
theorem gGrow {g : Nat} {a b : World} (h : a.grownBy b (some g)) (n : Nat) (os : Array Obj) : a.grownBy (Sort.grow (b.drewN n) os) (some g) :=
  ⟨h.os, h.tape, h.output, by rw [size_grow]; exact Nat.le_trans h.size (Nat.le_add_right _ _), fun i hi hn => (heap_grow_old _ os (show i < (b.drewN n).heap.size from Nat.lt_of_lt_of_le hi h.size)).trans (h.block i hi hn)⟩

set_option maxRecDepth 100000 in
set_option maxHeartbeats 8000000 in
theorem insSort (g cap N a b : Nat) (A S Z : List Kn) (w : World) (hN : (A ++ S ++ Z).length = N) (hn : N ≤ 1000000) (ha : A.length = a) (hb : a + S.length = b) (hr : RowK g cap (A ++ S ++ Z) w) :
    Calls Tryz.prog 89 #[.slice (some ⟨g, 0, none⟩) N cap, .int .i64 a, .int .i64 b, .func (.func 38) #[] #[]] w fun e w' =>
      e = .returned (.tuple #[]) ∧ w.grownBy w' (some g) ∧ RowK g cap (A ++ ss lt S ++ Z) w' := by
  have hbN : b ≤ N := by simp at hN; omega
  have hab : a ≤ b := by omega
  have HH := Lib.hid (And.intro ha hb)
  clear hN ha hb
  go_enter Tryz.func89, Tryz.ntmps89
  go_wp2
  go_loopw [8] (fun iv wr => ∃ i : Nat, a < i ∧ i ≤ b + 1 ∧ iv = .int .i64 i ∧ w.grownBy wr (some g) ∧ ∃ S1 S2 : List Kn, RowK g cap (A ++ ss lt S1 ++ S2 ++ Z) wr ∧ S = S1 ++ S2 ∧ (i = a + S1.length ∧ i ≤ b ∨ S2 = [] ∧ b ≤ i)) (fun iv _ => b + 1 - (intOf iv).toNat)
  case atStart =>
    refine ⟨a + 1, by omega, by omega, by go_num, World.grownBy.refl _ _, ?_⟩
    cases S with
    | nil => exact ⟨[], [], by simpa [ss] using hr, rfl, .inr ⟨rfl, by have := HH.out; simp at this; omega⟩⟩
    | cons s S => exact ⟨[s], S, by simpa [ss_one] using hr, rfl, .inl ⟨rfl, by have := HH.out; simp at this; omega⟩⟩
  case round =>
    obtain ⟨i, hai, hib, rfl, hg, S1, S2, hrr, hS, hi⟩ := hrel
    by_cases hlt : i < b
    · have hL : a + S1.length = i ∧ i + S2.length = b := by
        have h1 := HH.out.2
        rw [hS, List.length_append] at h1
        rcases hi with ⟨h2, h3⟩ | ⟨h2, h3⟩ <;> omega
      obtain ⟨⟨xa, fa⟩, S2, rfl⟩ := List.exists_cons_of_length_pos (show 0 < S2.length by omega)
      have HS0 := Lib.hid hS
      have HR := Lib.hid hrr
      have HL := Lib.hid hL
      clear hi hS hrr hr hL
      obtain ⟨wo, rfl⟩ : ∃ wo : World, wo = wr := ⟨_, rfl⟩
      go_wp2
      go_loopw [9] (fun jv wr => ∃ j : Nat, a ≤ j ∧ j ≤ i ∧ jv = .int .i64 j ∧ w.grownBy wr (some g) ∧ ∃ L1 L2 : List Kn, RowK g cap (A ++ L1 ++ (xa, fa) :: (L2 ++ S2 ++ Z)) wr ∧ L1 ++ L2 = ss lt S1 ∧ j = a + L1.length ∧ ∀ y ∈ L2, lt (xa, fa) y = true) (fun jv _ => (intOf jv).toNat)
      case atStart => exact ⟨i, by omega, by omega, rfl, hg, ss lt S1, [], by simpa using HR.out, by simp, by rw [ss_length]; have := HL.out; omega, by simp⟩
      case round =>
        obtain ⟨j, haj, hji, rfl, hg2, L1, L2, hr2, hL12, hj, hx⟩ := hrel
        have HX := Lib.hid (And.intro hL12 hx)
        clear hL12 hx
        have fin : (L1 = [] ∨ ∃ L z, L1 = L ++ [z] ∧ lt (xa, fa) z = false) → ∀ w2, RowK g cap (A ++ L1 ++ (xa, fa) :: (L2 ++ S2 ++ Z)) w2 → RowK g cap (A ++ ss lt (S1 ++ [(xa, fa)]) ++ S2 ++ Z) w2 := fun h w2 hw => by
          rw [← ins_done HX.out.1 HX.out.2 h]; simpa using hw
        have FIN := Lib.hid fin
        clear fin
        by_cases hja : a < j
        · have hgt : decide ((j : Int) > (a : Int)) = true := by simp; omega
          have hgt2 : decide ((a : Int) < (j : Int)) = true := by simp; omega
          obtain ⟨L1, ⟨xb, fb⟩, rfl⟩ : ∃ L z, L1 = L ++ [z] := by
            rcases List.eq_nil_or_concat L1 with h | ⟨L, z, h⟩
            · subst h; rw [List.length_nil] at hj; omega
            · exact ⟨L, z, by rw [h, List.concat_eq_append]⟩
          rw [List.length_append, List.length_singleton] at hj
          have hr3 : RowK g cap ((A ++ L1) ++ (xb, fb) :: ([] ++ (xa, fa) :: (L2 ++ S2 ++ Z))) wr := by simpa using hr2
          have hAL : (A ++ L1).length = j - 1 := by have := HH.out; simp; omega
          have gy := get_mid (A ++ L1) ([] ++ (xa, fa) :: (L2 ++ S2 ++ Z)) (xb, fb) hAL
          have gx : ((A ++ L1) ++ (xb, fb) :: ([] ++ (xa, fa) :: (L2 ++ S2 ++ Z)))[j]? = some (xa, fa) := by
            have := get_mid ((A ++ L1) ++ [(xb, fb)]) (L2 ++ S2 ++ Z) (xa, fa) (n := j) (by rw [List.length_append, hAL]; simp; omega)
            simpa using this
          obtain ⟨pa, hpa⟩ : ∃ p, j * 9 = p := ⟨_, rfl⟩
          obtain ⟨pb, hpb⟩ : ∃ p, (j - 1) * 9 = p := ⟨_, rfl⟩
          have hgw := hr3.lt
          have c1 : ∀ n os, (Sort.grow (wr.drewN n) os).cell? ⟨g, pa, none⟩ = some (.int .i64 xa) := fun n os => cell_grown hgw (hpa ▸ Rw.cell hr3 gx (j := 0) rfl) n os
          have c2 : ∀ n os, (Sort.grow (wr.drewN n) os).cell? ⟨g, pa + 1, none⟩ = some (.int .u32 fa.id) := fun n os => cell_grown hgw (hpa ▸ Rw.cell hr3 gx (j := 1) rfl) n os
          have c3 : ∀ n os, (Sort.grow (wr.drewN n) os).cell? ⟨g, pa + 2, none⟩ = some (.int .u32 fa.pe) := fun n os => cell_grown hgw (hpa ▸ Rw.cell hr3 gx (j := 2) rfl) n os
          have c4 : ∀ n os, (Sort.grow (wr.drewN n) os).cell? ⟨g, pa + 3, none⟩ = some (.int .i64 fa.ki) := fun n os => cell_grown hgw (hpa ▸ Rw.cell hr3 gx (j := 3) rfl) n os
          have c5 : ∀ n os, (Sort.grow (wr.drewN n) os).cell? ⟨g, pa + 4, none⟩ = some (.int .i64 fa.fr) := fun n os => cell_grown hgw (hpa ▸ Rw.cell hr3 gx (j := 4) rfl) n os
          have c6 : ∀ n os, (Sort.grow (wr.drewN n) os).cell? ⟨g, pa + 5, none⟩ = some (.int .i64 fa.to) := fun n os => cell_grown hgw (hpa ▸ Rw.cell hr3 gx (j := 5) rfl) n os
          have c7 : ∀ n os, (Sort.grow (wr.drewN n) os).cell? ⟨g, pa + 6, none⟩ = some (.string fa.co) := fun n os => cell_grown hgw (hpa ▸ Rw.cell hr3 gx (j := 6) rfl) n os
          have c8 : ∀ n os, (Sort.grow (wr.drewN n) os).cell? ⟨g, pa + 7, none⟩ = some (.int .i64 fa.nu) := fun n os => cell_grown hgw (hpa ▸ Rw.cell hr3 gx (j := 7) rfl) n os
          have c9 : ∀ n os, (Sort.grow (wr.drewN n) os).cell? ⟨g, pa + 8, none⟩ = some (.string fa.tx) := fun n os => cell_grown hgw (hpa ▸ Rw.cell hr3 gx (j := 8) rfl) n os
          have c10 : ∀ n os, (Sort.grow (wr.drewN n) os).cell? ⟨g, pb, none⟩ = some (.int .i64 xb) := fun n os => cell_grown hgw (hpb ▸ Rw.cell hr3 gy (j := 0) rfl) n os
          have c11 : ∀ n os, (Sort.grow (wr.drewN n) os).cell? ⟨g, pb + 1, none⟩ = some (.int .u32 fb.id) := fun n os => cell_grown hgw (hpb ▸ Rw.cell hr3 gy (j := 1) rfl) n os
          have c12 : ∀ n os, (Sort.grow (wr.drewN n) os).cell? ⟨g, pb + 2, none⟩ = some (.int .u32 fb.pe) := fun n os => cell_grown hgw (hpb ▸ Rw.cell hr3 gy (j := 2) rfl) n os
          have c13 : ∀ n os, (Sort.grow (wr.drewN n) os).cell? ⟨g, pb + 3, none⟩ = some (.int .i64 fb.ki) := fun n os => cell_grown hgw (hpb ▸ Rw.cell hr3 gy (j := 3) rfl) n os
          have c14 : ∀ n os, (Sort.grow (wr.drewN n) os).cell? ⟨g, pb + 4, none⟩ = some (.int .i64 fb.fr) := fun n os => cell_grown hgw (hpb ▸ Rw.cell hr3 gy (j := 4) rfl) n os
          have c15 : ∀ n os, (Sort.grow (wr.drewN n) os).cell? ⟨g, pb + 5, none⟩ = some (.int .i64 fb.to) := fun n os => cell_grown hgw (hpb ▸ Rw.cell hr3 gy (j := 5) rfl) n os
          have c16 : ∀ n os, (Sort.grow (wr.drewN n) os).cell? ⟨g, pb + 6, none⟩ = some (.string fb.co) := fun n os => cell_grown hgw (hpb ▸ Rw.cell hr3 gy (j := 6) rfl) n os
          have c17 : ∀ n os, (Sort.grow (wr.drewN n) os).cell? ⟨g, pb + 7, none⟩ = some (.int .i64 fb.nu) := fun n os => cell_grown hgw (hpb ▸ Rw.cell hr3 gy (j := 7) rfl) n os
          have c18 : ∀ n os, (Sort.grow (wr.drewN n) os).cell? ⟨g, pb + 8, none⟩ = some (.string fb.tx) := fun n os => cell_grown hgw (hpb ▸ Rw.cell hr3 gy (j := 8) rfl) n os
          have HJ := Lib.hid hj
          have HSW := Lib.hid hr3
          have HJ2 := Lib.hid hAL
          have GX := Lib.hid gx
          have GY := Lib.hid gy
          clear hj hAL gx gy hr2 hr3
          have w1 : IntKind.i64.wrap ((j : Int) - 1) = (j : Int) - 1 := IntWalk.i64_in _ (by omega)
          have w2 : ((j : Int) - 1).toNat = j - 1 := by omega
          have hw3 : (0 : Int) ≤ (j : Int) - 1 := by omega
          have hw4 : (j : Int) - 1 < (N : Int) := by omega
          have hw5 : (j : Int) < (N : Int) := by omega
          go_wp2_with fail
          refine wp_region_quiet_grown (by kernel_rfl) (by kernel_rfl) ?_
          repeat (go_big_quiet_step (refine Calls.grown_of (cmpK' xa xb fa fb _)))
          refine wpQuiet_nil ?_
          intro _ hw'
          obtain ⟨⟨nq, osq⟩, hw''⟩ := hw'
          subst hw''
          have hg3 := gGrow hg2 nq osq
          have hr4 : RowK g cap _ _ := Rw.grow (HSW.out.drewN nq) osq
          have HR4 := Lib.hid hr4
          clear hr4
          generalize Sort.grow (wr.drewN nq) osq = wq at *
          obtain ⟨hc1, hc2⟩ := cf_neg xa xb
          generalize cf xa xb = cc at *
          by_cases hlt2 : xa < xb
          · have hcc := hc1 hlt2
            clear hc1 hc2
            obtain ⟨wd, hwd⟩ : ∃ x, wq.drew = x := ⟨_, rfl⟩
            have hrd : RowK g cap ((A ++ L1) ++ (xb, fb) :: ([] ++ (xa, fa) :: (L2 ++ S2 ++ Z))) wd := by rw [← hwd]; exact HR4.out
            obtain ⟨w1, w2, hs⟩ := hrd.swpUp (i := j - 1) (j := j) HJ2.out (by simp; omega) hpa hpb
            have hgd : w.grownBy wd (some g) := by rw [← hwd]; exact gDrew hg3
            have sa0 : wd.cell? ⟨g, pa, none⟩ = some (.int .i64 xa) := hs.ca 0 _ rfl
            have sa1 : wd.cell? ⟨g, pa + 1, none⟩ = some (.int .u32 fa.id) := hs.ca 1 _ rfl
            have sa2 : wd.cell? ⟨g, pa + 2, none⟩ = some (.int .u32 fa.pe) := hs.ca 2 _ rfl
            have sa3 : wd.cell? ⟨g, pa + 3, none⟩ = some (.int .i64 fa.ki) := hs.ca 3 _ rfl
            have sa4 : wd.cell? ⟨g, pa + 4, none⟩ = some (.int .i64 fa.fr) := hs.ca 4 _ rfl
            have sa5 : wd.cell? ⟨g, pa + 5, none⟩ = some (.int .i64 fa.to) := hs.ca 5 _ rfl
            have sa6 : wd.cell? ⟨g, pa + 6, none⟩ = some (.string fa.co) := hs.ca 6 _ rfl
            have sa7 : wd.cell? ⟨g, pa + 7, none⟩ = some (.int .i64 fa.nu) := hs.ca 7 _ rfl
            have sa8 : wd.cell? ⟨g, pa + 8, none⟩ = some (.string fa.tx) := hs.ca 8 _ rfl
            have sb0 : wd.cell? ⟨g, pb, none⟩ = some (.int .i64 xb) := hs.cb 0 _ rfl
            have sb1 : wd.cell? ⟨g, pb + 1, none⟩ = some (.int .u32 fb.id) := hs.cb 1 _ rfl
            have sb2 : wd.cell? ⟨g, pb + 2, none⟩ = some (.int .u32 fb.pe) := hs.cb 2 _ rfl
            have sb3 : wd.cell? ⟨g, pb + 3, none⟩ = some (.int .i64 fb.ki) := hs.cb 3 _ rfl
            have sb4 : wd.cell? ⟨g, pb + 4, none⟩ = some (.int .i64 fb.fr) := hs.cb 4 _ rfl
            have sb5 : wd.cell? ⟨g, pb + 5, none⟩ = some (.int .i64 fb.to) := hs.cb 5 _ rfl
            have sb6 : wd.cell? ⟨g, pb + 6, none⟩ = some (.string fb.co) := hs.cb 6 _ rfl
            have sb7 : wd.cell? ⟨g, pb + 7, none⟩ = some (.int .i64 fb.nu) := hs.cb 7 _ rfl
            have sb8 : wd.cell? ⟨g, pb + 8, none⟩ = some (.string fb.tx) := hs.cb 8 _ rfl
            have fa0 : wd.frozen? ⟨g, pa, none⟩ = false := hs.fz _
            have fa1 : wd.frozen? ⟨g, pa + 1, none⟩ = false := hs.fz _
            have fa2 : wd.frozen? ⟨g, pa + 2, none⟩ = false := hs.fz _
            have fa3 : wd.frozen? ⟨g, pa + 3, none⟩ = false := hs.fz _
            have fa4 : wd.frozen? ⟨g, pa + 4, none⟩ = false := hs.fz _
            have fa5 : wd.frozen? ⟨g, pa + 5, none⟩ = false := hs.fz _
            have fa6 : wd.frozen? ⟨g, pa + 6, none⟩ = false := hs.fz _
            have fa7 : wd.frozen? ⟨g, pa + 7, none⟩ = false := hs.fz _
            have fa8 : wd.frozen? ⟨g, pa + 8, none⟩ = false := hs.fz _
            obtain ⟨zb0, sc0⟩ : ∃ u, w1.cell? ⟨g, pb, none⟩ = some u := hs.c1 0 (by omega)
            have fb0 : w1.frozen? ⟨g, pb, none⟩ = false := hs.f1 _
            obtain ⟨zb1, sc1⟩ : ∃ u, w1.cell? ⟨g, pb + 1, none⟩ = some u := hs.c1 1 (by omega)
            have fb1 : w1.frozen? ⟨g, pb + 1, none⟩ = false := hs.f1 _
            obtain ⟨zb2, sc2⟩ : ∃ u, w1.cell? ⟨g, pb + 2, none⟩ = some u := hs.c1 2 (by omega)
            have fb2 : w1.frozen? ⟨g, pb + 2, none⟩ = false := hs.f1 _
            obtain ⟨zb3, sc3⟩ : ∃ u, w1.cell? ⟨g, pb + 3, none⟩ = some u := hs.c1 3 (by omega)
            have fb3 : w1.frozen? ⟨g, pb + 3, none⟩ = false := hs.f1 _
            obtain ⟨zb4, sc4⟩ : ∃ u, w1.cell? ⟨g, pb + 4, none⟩ = some u := hs.c1 4 (by omega)
            have fb4 : w1.frozen? ⟨g, pb + 4, none⟩ = false := hs.f1 _
            obtain ⟨zb5, sc5⟩ : ∃ u, w1.cell? ⟨g, pb + 5, none⟩ = some u := hs.c1 5 (by omega)
            have fb5 : w1.frozen? ⟨g, pb + 5, none⟩ = false := hs.f1 _
            obtain ⟨zb6, sc6⟩ : ∃ u, w1.cell? ⟨g, pb + 6, none⟩ = some u := hs.c1 6 (by omega)
            have fb6 : w1.frozen? ⟨g, pb + 6, none⟩ = false := hs.f1 _
            obtain ⟨zb7, sc7⟩ : ∃ u, w1.cell? ⟨g, pb + 7, none⟩ = some u := hs.c1 7 (by omega)
            have fb7 : w1.frozen? ⟨g, pb + 7, none⟩ = false := hs.f1 _
            obtain ⟨zb8, sc8⟩ : ∃ u, w1.cell? ⟨g, pb + 8, none⟩ = some u := hs.c1 8 (by omega)
            have fb8 : w1.frozen? ⟨g, pb + 8, none⟩ = false := hs.f1 _
            have he1 : ((((((((wd.setCell ⟨g, pa, none⟩ (.int .i64 xb)).setCell ⟨g, pa + 1, none⟩ (.int .u32 fb.id)).setCell ⟨g, pa + 2, none⟩ (.int .u32 fb.pe)).setCell ⟨g, pa + 3, none⟩ (.int .i64 fb.ki)).setCell ⟨g, pa + 4, none⟩ (.int .i64 fb.fr)).setCell ⟨g, pa + 5, none⟩ (.int .i64 fb.to)).setCell ⟨g, pa + 6, none⟩ (.string fb.co)).setCell ⟨g, pa + 7, none⟩ (.int .i64 fb.nu)).setCell ⟨g, pa + 8, none⟩ (.string fb.tx) = w1 := hs.e1
            have he2 : ((((((((w1.setCell ⟨g, pb, none⟩ (.int .i64 xa)).setCell ⟨g, pb + 1, none⟩ (.int .u32 fa.id)).setCell ⟨g, pb + 2, none⟩ (.int .u32 fa.pe)).setCell ⟨g, pb + 3, none⟩ (.int .i64 fa.ki)).setCell ⟨g, pb + 4, none⟩ (.int .i64 fa.fr)).setCell ⟨g, pb + 5, none⟩ (.int .i64 fa.to)).setCell ⟨g, pb + 6, none⟩ (.string fa.co)).setCell ⟨g, pb + 7, none⟩ (.int .i64 fa.nu)).setCell ⟨g, pb + 8, none⟩ (.string fa.tx) = w2 := hs.e2
            have HS := Lib.hid (And.intro (gTrans hgd hs.gr) hs.ro)
            clear hs hrd hgd c1 c2 c3 c4 c5 c6 c7 c8 c9 c10 c11 c12 c13 c14 c15 c16 c17 c18
            go_wp2_with fail
            go_region
            all_goals
              go_wp2
              refine ⟨⟨j - 1, by omega, by omega, by go_num, HS.out.1, L1, (xb, fb) :: L2, by simpa using HS.out.2, by simpa using HX.out.1, by have := HJ.out; omega, ?_⟩, by simp [intOf]; omega⟩
              intro y hy
              rcases List.mem_cons.1 hy with rfl | hy
              · exact decide_eq_true hlt2
              · exact HX.out.2 _ hy
          · have hcc := hc2 hlt2
            clear hc1 hc2
            clear c1 c2 c3 c4 c5 c6 c7 c8 c9 c10 c11 c12 c13 c14 c15 c16 c17 c18
            go_wp2
            refine ⟨⟨i + 1, by omega, by omega, by go_num, hg3, S1 ++ [(xa, fa)], S2, FIN.out (.inr ⟨L1, _, rfl, decide_eq_false hlt2⟩) _ (by simpa using HR4.out), by rw [HS0.out]; simp, .inl ⟨?_, by omega⟩⟩, by simp [intOf]; omega⟩
            have := HL.out; simp; omega
        · have hgt : decide ((j : Int) > (a : Int)) = false := by simp; omega
          have hgt2 : decide ((a : Int) < (j : Int)) = false := by simp; omega
          have hL0 : L1 = [] := List.length_eq_zero_iff.1 (by omega)
          have HF := Lib.hid (FIN.out (.inl hL0) wr hr2)
          have hg3 := gGrow hg2 0 #[]
          clear hj hr2 hL0
          go_wp2_with fail
          go_quiet (fail)
          go_wp2
          refine ⟨⟨i + 1, by omega, by omega, by go_num, ?_, S1 ++ [(xa, fa)], S2, HF.out.drewN _, by rw [HS0.out]; simp, .inl ⟨?_, by omega⟩⟩, by simp [intOf]; omega⟩
          · have := gGrow hg2 nq #[]; rwa [grow_empty] at this
          · have := HL.out; simp; omega
    · have h2 : S2 = [] := by
        rcases hi with ⟨h2, h3⟩ | ⟨h2, h3⟩
        · have h1 := HH.out.2
          rw [hS, List.length_append] at h1
          exact List.length_eq_zero_iff.1 (by omega)
        · exact h2
      subst h2
      rw [List.append_nil] at hS hrr
      have HR := Lib.hid (hS ▸ hrr)
      clear hS hrr hr hi
      go_wp2
      go_end0
      exact ⟨rfl, hg, HR.out⟩
end Go.Proofs.YtdpejolpjhlibaaGreatDoor
